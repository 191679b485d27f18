/- A part of the proof: W1 Ls6 W2a Rbm Ls8 Cs43 Cs44 V39 W5a. -/
import Derived.Test.YtidophngianjiaaGreatDoor10x17
import Derived.Test.YtidophngianjiaaGreatDoor10x20
import Derived.Test.YtidophngianjiaaGreatDoor10x21
import Derived.Test.YtidophngianjiaaGreatDoor10x22
import Derived.Test.YtidophngianjiaaGreatDoor10x23
import Derived.Test.YtidophngianjiaaGreatDoor10x24
import Derived.Test.YtidophngianjiaaGreatDoor10x33
import Derived.Test.YtidophngianjiaaGreatDoor10x35
import Derived.Test.YtidophngianjiaaGreatDoor10x36
set_option linter.all false
section
namespace Go.Hx
open Go.Proofs
set_option maxRecDepth 100000
set_option maxHeartbeats 1000000
theorem aw0 : goodFn Tryz.prog 131 := ⟨Tryz.f131, Tryz.func131, by kernel_rfl, by kernel_rfl⟩
theorem ayy (ps : List AS) : ah Tryz.prog 131 [pP (asl ps)] (ap [pA (orL ps)]) := by
 refine ag (nt := 17) af Tryz.func131 rfl rfl l9 ?_; refine sx7 ?_; refine qy ?_; refine a6 ?_; refine sx7 ?_; refine qy ?_; refine a6 ?_; (iterate 2 refine a7 ?_)
 refine d1 0 rfl fun hn => ?_
 refine gy ?_; (iterate 3 refine qy ?_); refine a6 ?_; refine ae ?_
 refine ai (ι := Nat) ⟨[(6, some _), (7, some _)], []⟩ ⟨⟨c9, c9, trivial⟩, trivial⟩ (fun i => ⟨[(3, some (vA (orL (ps.take i)))), (8, some (vI i))], []⟩) (fun i => i ≤ ps.length) (fun i => ps.length - i) (0) (Nat.zero_le _) ⟨⟨⟨_, rfl, (CoR.refl _)⟩, zy, trivial⟩, trivial⟩ ?_
 rintro i hi
 refine sx7 ?_; refine qy ?_; refine a6 ?_; refine a7 ?_; refine a8 _ rfl (fun r0 => ?_) (fun r0 => ?_)
 ·
  have h0 := of_decide_eq_true r0
  try simp only [ty] at h0
  refine aa ?_; refine a7 ?_; refine ae ?_; refine sx7 ?_; (iterate 3 refine qy ?_); refine a6 ?_; refine gy ?_; (iterate 4 refine qy ?_); refine a6 ?_; refine gy ?_; (iterate 2 refine qy ?_)
  refine a6 ?_; refine ⟨i + 1, ?_, ?_, ?_⟩
  · show i + 1 ≤ _; omega
  · first | omega | (dsimp only; omega)
  · exact ⟨⟨⟨_, rfl, (c8 (by rw [bOr, yf (by omega)]; rfl))⟩, zy, c9, c9, trivial⟩, trivial⟩
 ·
  have h0 := of_decide_eq_false r0
  try simp only [ty] at h0
  obtain rfl : i = ps.length := by omega
  refine ak ?_; refine sx7 ?_; (iterate 2 refine qy ?_); refine a6 ?_
  exact hx8 rfl rfl rfl (⟨cci (by rw [List.take_length]), trivial⟩)
theorem aiu : goodFn Tryz.prog 83 := ⟨Tryz.f83, Tryz.func83, by kernel_rfl, by kernel_rfl⟩
theorem afh (n : Int) (ps : List AS) : ah Tryz.prog 83 [pI n, pP (asl ps)] (ap [pI (lvE n ps)]) := by
 refine ag (nt := 28) af Tryz.func83 rfl rfl l9 ?_; refine sx7 ?_; refine qy ?_; refine a6 ?_; refine a7 ?_; refine ae ?_; refine sx7 ?_; (iterate 3 refine qy ?_)
 refine bc rfl rfl (fun r0 => ?_) (fun r0 => ?_)
 ·
  have h0 := of_decide_eq_true r0
  try simp only [ty] at h0
  (iterate 2 refine k9 (gtf r0) ?_); refine rq rfl rfl rfl rfl rfl ?_ (hp := r0); refine qy ?_; refine a6 ?_; refine a8 _ rfl (fun _ => ?_) (fun e => by cases e); refine sx7 ?_; refine qy ?_; refine a6 ?_
  exact hx8 rfl rfl rfl (⟨cci (a9x (by omega)).symm, trivial⟩)
 ·
  have h0 := of_decide_eq_false r0
  try simp only [ty] at h0
  (iterate 2 refine qy ?_ (hg := (gff r0))); (iterate 2 refine qy ?_); refine a6 ?_; refine a8 _ rfl (fun r1 => ?_) (fun r1 => ?_)
  ·
   have h1 := r1
   have h1 := bn r0 h1
   have h1 := of_decide_eq_true h1
   try simp only [ty] at h1
   refine sx7 ?_; refine qy ?_; refine a6 ?_
   exact hx8 rfl rfl rfl (⟨cci (a9x (by omega)).symm, trivial⟩)
  ·
   have h1 := r1
   have h1 := bn r0 h1
   have h1 := of_decide_eq_false h1
   try simp only [ty] at h1
   have hz0 : 0 ≤ n := by omega
   have hz1 : n ≤ 16 := by omega
   refine sx7 ?_; (iterate 4 refine qy ?_); refine a6 ?_; refine a8 _ rfl (fun r2 => ?_) (fun r2 => ?_)
   ·
    have h2 := of_decide_eq_true r2
    try simp only [ty] at h2
    refine sx7 ?_; refine qy ?_; refine a6 ?_
    exact hx8 rfl rfl rfl (⟨cci (as0 (by omega) (by omega)).symm, trivial⟩)
   ·
    have h2 := of_decide_eq_false r2
    try simp only [ty] at h2
    refine a7 ?_; refine b7 (E := bm) af ar [0, 1, 2, 3, 4, 5, 6, 7, 8, 9, 10, 11] ?_; (iterate 4 refine qy ?_); refine bc rfl rfl (fun r3 => ?_) (fun r3 => ?_)
    ·
     have h3 := of_decide_eq_true r3
     try simp only [ty] at h3
     (iterate 6 refine k9 (gtf r3) ?_); refine rq rfl rfl rfl rfl rfl ?_ (hp := r3); refine qy ?_; refine a6 ?_; refine ⟨by kernel_rfl, ?_⟩; refine a8 _ rfl (fun _ => ?_) (fun e => by cases e); refine sx7 ?_
     refine qy ?_; refine a6 ?_
     exact hx8 rfl rfl rfl (⟨cci (aa3 (by omega) (by omega) (by first | exact .inl (by omega) | exact .inr (fun e => absurd (show asI (orL ps) = IntKind.wrap .u32 (1 * 2 ^ (min n.toNat 32)) - 1 by rw [tl hz0 hz1, e]) (by assumption)))).symm, trivial⟩)
    ·
     have h3 := of_decide_eq_false r3
     try simp only [ty] at h3
     refine qy ?_ (hg := (gff r3)); refine rc rfl rfl rfl rfl rfl rfl aw0 (ayy ps) (CoL.refl _) rfl (gff r3) ?_; (iterate 2 refine qy ?_ (hg := (gff r3)))
     refine rq rfl rfl rfl rfl (gff r3) ?_ (hp := ⟨a3o hz0 hz1, zo hz0 hz1⟩); refine qy ?_ (hg := (gff r3)); (iterate 2 refine qy ?_); refine a6 ?_; refine ⟨by kernel_rfl, ?_⟩
     refine a8 _ rfl (fun r4 => ?_) (fun r4 => ?_)
     ·
      have h4 := r4
      have h4 := bn r3 h4
      have h4 := of_decide_eq_false (ax h4)
      try simp only [ty] at h4
      refine sx7 ?_; refine qy ?_; refine a6 ?_
      exact hx8 rfl rfl rfl (⟨cci (aa3 (by omega) (by omega) (by first | exact .inl (by omega) | exact .inr (fun e => absurd (show asI (orL ps) = IntKind.wrap .u32 (1 * 2 ^ (min n.toNat 32)) - 1 by rw [tl hz0 hz1, e]) (by assumption)))).symm, trivial⟩)
     ·
      have h4 := r4
      have h4 := bn r3 h4
      have h4 := of_decide_eq_true (aw h4)
      try simp only [ty] at h4
      refine aa ?_; refine sx7 ?_; refine qy ?_; refine a6 ?_; refine am ?_; refine ⟨.inr rfl, ?_⟩
      exact ⟨_, _, _, _, rfl, (by (repeat' apply And.intro) <;> first | trivial | exact Nat.le_of_ble_eq_true rfl | rfl), rfl, (by (repeat' apply And.intro) <;> first | trivial | exact Nat.le_of_ble_eq_true rfl | rfl), ⟨cci (aha (by omega) (by omega) (fun e => by
       rcases e with e | e
       · omega
       · exact e (db.1 ((by assumption : asI (orL ps) = IntKind.wrap .u32 (1 * 2 ^ (min n.toNat 32)) - 1).trans (tl hz0 hz1))))).symm, trivial⟩⟩
theorem ayu : goodFn Tryz.prog 98 := ⟨Tryz.f98, Tryz.func98, by kernel_rfl, by kernel_rfl⟩
theorem ax8 (n : Int) (ps : List AS) (p m : List Fd) : ah Tryz.prog 98 [pI n, pP (asl ps), pP (fdl p), pP (fdl m)] (ap [pT (lcR n ps p m).1.1 (lcR n ps p m).1.2, pP (stl (lcR n ps p m).2.1), pT (lcR n ps p m).2.2.1.1 (lcR n ps p m).2.2.1.2, pI (lcR n ps p m).2.2.2]) := by
 refine ag (nt := 58) af Tryz.func98 rfl rfl l9 ?_; refine sx7 ?_; refine m9 0 ?_; refine qy ?_; refine m9 1 ?_; refine qy ?_; refine a6 ?_; refine a7 ?_; refine sx7 ?_; (iterate 2 refine qy ?_)
 refine rc rfl rfl rfl rfl rfl rfl aiu (afh n ps) (CoL.refl _) rfl rfl ?_; refine qy ?_; refine a6 ?_; refine sx7 ?_; (iterate 2 refine qy ?_); refine a6 ?_; refine a8 _ rfl (fun r0 => ?_) (fun r0 => ?_)
 ·
  have h0 := r0
  have h0 := of_decide_eq_false (ax h0)
  try simp only [ty] at h0
  refine sx7 ?_; (iterate 3 refine qy ?_); refine s9 ?_; refine qy ?_; refine s9 ?_; refine qy ?_; refine a6 ?_; refine am ?_; refine ⟨.inr rfl, ?_⟩
  have he := b1l (p := p) (m := m) (by assumption : ¬ lvE n ps = 0)
  exact f9 rfl rfl (by rw [he]; exact ⟨CoC.agg ⟨CoP.refl _, bs, trivial⟩, CoC.one (CoP.sl rfl (.inr rfl) (fun _ => rfl) (fun i j hi _ => absurd hi (Nat.not_lt_zero i))), CoC.agg ⟨CoP.refl _, bs, trivial⟩, CoC.refl _, trivial⟩)
 ·
  have h0 := r0
  have h0 := of_decide_eq_true (aw h0)
  try simp only [ty] at h0
  have hv : lvE n ps = 0 := by assumption
  refine aa ?_; refine a7 ?_; refine sx7 ?_; (iterate 3 refine qy ?_); refine rc rfl rfl rfl rfl rfl rfl ams (af5 n p m) (CoL.refl _) rfl rfl ?_; refine qy ?_; refine a6 ?_; refine sx7 ?_
  (iterate 2 refine qy ?_); refine a6 ?_; refine a8 _ rfl (fun r1 => ?_) (fun r1 => ?_)
  ·
   have h1 := r1
   have h1 := of_decide_eq_false (ax h1)
   try simp only [ty] at h1
   refine sx7 ?_; (iterate 3 refine qy ?_); refine s9 ?_; refine qy ?_; refine s9 ?_; refine qy ?_; refine a6 ?_; refine am ?_; refine ⟨.inr rfl, ?_⟩
   have he := b1s hv (by assumption : ¬ cu n p m = 0)
   exact f9 rfl rfl (by rw [he]; exact ⟨CoC.agg ⟨CoP.refl _, bs, trivial⟩, CoC.one (CoP.sl rfl (.inr rfl) (fun _ => rfl) (fun i j hi _ => absurd hi (Nat.not_lt_zero i))), CoC.agg ⟨CoP.refl _, bs, trivial⟩, CoC.refl _, trivial⟩)
  ·
   have h1 := r1
   have h1 := of_decide_eq_true (aw h1)
   try simp only [ty] at h1
   have hb : cu n p m = 0 := by assumption
   refine aa ?_; refine sx7 ?_; (iterate 2 refine qy ?_); refine rc rfl rfl rfl rfl rfl rfl auq (asx n ps hv) (CoL.refl _) rfl rfl ?_; (iterate 3 refine qy ?_); refine m9 2 ?_; refine s9 ?_; refine qy ?_
   refine a6 ?_; refine a7 ?_; refine sx7 ?_; (iterate 2 refine qy ?_); refine a6 ?_; refine a8 _ rfl (fun e => by cases e) (fun _ => ?_); refine aa ?_; refine sx7 ?_; (iterate 3 refine qy ?_)
   refine rc rfl rfl rfl rfl rfl rfl au6 (aua n ps p m) (CoL.refl _) rfl rfl ?_; (iterate 4 refine qy ?_); refine m9 3 ?_; refine qy ?_; refine s9 ?_; refine qy ?_; refine a6 ?_; refine a7 ?_
   refine b7 (E := bm) af ar [0, 1, 2, 3, 4, 5, 6, 7] ?_; (iterate 4 refine qy ?_); refine s9 ?_; refine qy ?_; refine s9 ?_; refine qy ?_; refine a6 ?_; refine ⟨by kernel_rfl, ?_⟩; refine am ?_
   refine ⟨.inr rfl, ?_⟩
   have he := arl hv hb
   exact f9 rfl rfl (by rw [he]; exact CoL.refl _)
theorem av1 : goodFn Tryz.prog 100 := ⟨Tryz.f100, Tryz.func100, by kernel_rfl, by kernel_rfl⟩
theorem asm (n : Int) (h0 : 0 ≤ n) (h1 : n ≤ 16) : ah Tryz.prog 100 [pI n] (ap [pZ (cg n)]) := by
 refine ag (nt := 18) af Tryz.func100 rfl rfl l9 ?_; refine sx7 ?_; refine qy ?_; refine a6 ?_; refine sx7 ?_; refine qy ?_; refine m9 0 ?_; refine qy ?_; refine a6 ?_; refine a7 ?_; refine sx7 ?_
 (iterate 3 refine qy ?_); refine a6 ?_; refine ae ?_
 refine ai (ι := Nat) ⟨[(3, some _), (8, some _)], []⟩ ⟨⟨c9, c9, trivial⟩, trivial⟩ (fun k => ⟨[(9, some (vI k))], [(0, some (.arr true 1 3 n.toNat (lf zC (stT n 0 (j7 32) k))))]⟩) (fun k => k ≤ n.toNat) (fun k => n.toNat - k) (0) (Nat.zero_le _) ⟨⟨zy, trivial⟩, ⟨⟨_, rfl, (ack rfl (fun _ => rfl))⟩, trivial⟩⟩ ?_
 rintro k hk
 refine sx7 ?_; refine qy ?_; refine a6 ?_; refine a7 ?_; refine a8 _ rfl (fun r0 => ?_) (fun r0 => ?_)
 ·
  have h0 := of_decide_eq_true r0
  try simp only [ty] at h0
  refine aa ?_; refine a7 ?_; refine ae ?_; refine sx7 ?_; (iterate 2 refine qy ?_); refine a6 ?_; refine gy ?_; (iterate 4 refine qy ?_); refine s9 ?_; refine a6 ?_; refine gy ?_; (iterate 2 refine qy ?_)
  refine a6 ?_; refine ⟨k + 1, ?_, ?_, ?_⟩
  · show k + 1 ≤ _; omega
  · first | omega | (dsimp only; omega)
  · exact ⟨⟨zy, c9, c9, trivial⟩, ⟨⟨_, rfl, (axv (al9 (by omega)) rfl (by omega))⟩, trivial⟩⟩
 ·
  have h0 := of_decide_eq_false r0
  try simp only [ty] at h0
  refine ak ?_; refine a7 ?_; refine br 3 rfl rfl rfl ?_; refine gy ?_; (iterate 2 refine qy ?_); refine a6 ?_
  exact hx8 rfl rfl rfl (⟨aly h1 (by omega), trivial⟩)
theorem ayw : goodFn Tryz.prog 50 := ⟨Tryz.f50, Tryz.func50, by kernel_rfl, by kernel_rfl⟩
theorem b2o (n : Int) (ps : List AS) (p m : List Fd) : ah Tryz.prog 50 [pI n, pP (asl ps), pP (fdl p), pP (fdl m)] (ap [pB (lsB n ps p m), pI (lsC n ps p m)]) := by
 refine ag (nt := 33) af Tryz.func50 rfl rfl l9 ?_; refine sx7 ?_; (iterate 2 refine qy ?_); refine a6 ?_; refine sx7 ?_; (iterate 4 refine qy ?_)
 refine rc rfl rfl rfl rfl rfl rfl ayu (ax8 n ps p m) (CoL.refl _) rfl rfl ?_; (iterate 5 refine qy ?_); refine m9 0 ?_; refine m9 1 ?_; refine s9 ?_; refine qy ?_; refine s9 ?_; refine qy ?_; refine a6 ?_
 refine a7 ?_; refine b7 (E := bm) af ar [0, 1, 2, 3, 4, 5, 6, 7, 8, 9, 10] ?_; (iterate 3 refine qy ?_); refine bc rfl rfl (fun r0 => ?_) (fun r0 => ?_)
 ·
  have h0 := of_decide_eq_true r0
  try simp only [ty] at h0
  have hz := b2e (n := n) (ps := ps) (p := p) (m := m) rfl h0
  (iterate 2 refine qy ?_ (hg := (gtt r0))); refine rc rfl rfl rfl rfl rfl rfl av1 (asm n hz.1 (by omega)) (CoL.refl _) rfl (gtt r0) ?_
  refine rc rfl rfl rfl rfl rfl rfl aku (asc (lcR n ps p m).2.2.1.1 (lcR n ps p m).2.2.1.2 (cg n)) (CoL.refl _) rfl (gtt r0) ?_; (iterate 4 refine qy ?_); refine a6 ?_; refine ⟨by kernel_rfl, ?_⟩
  exact hx8 rfl rfl rfl (⟨ccb (by first | exact ayn | exact ara (n := n) (ps := ps) (p := p) (m := m) (by assumption) | exact (ape (n := n) (ps := ps) (p := p) (m := m) (by assumption)).symm), cci sy, trivial⟩)
 ·
  have h0 := of_decide_eq_false r0
  try simp only [ty] at h0
  (iterate 4 refine k9 (gft r0) ?_); refine rq rfl rfl rfl rfl rfl ?_ (hp := r0); (iterate 3 refine qy ?_); refine a6 ?_; refine ⟨by kernel_rfl, ?_⟩
  exact hx8 rfl rfl rfl (⟨ccb (by first | exact ayn | exact ara (n := n) (ps := ps) (p := p) (m := m) (by assumption) | exact (ape (n := n) (ps := ps) (p := p) (m := m) (by assumption)).symm), cci sy, trivial⟩)
theorem awr : goodFn Tryz.prog 143 := ⟨Tryz.f143, Tryz.func143, by kernel_rfl, by kernel_rfl⟩
theorem aoq (n : Int) (ps : List AS) : ah Tryz.prog 143 [pI n, pP (asl ps)] (ap [pI (lvE n ps)]) := by
 refine ag (nt := 37) af Tryz.func143 rfl rfl l9 ?_; refine sx7 ?_; refine qy ?_; refine a6 ?_; refine a7 ?_; refine sx7 ?_; (iterate 3 refine qy ?_); refine bc rfl rfl (fun r0 => ?_) (fun r0 => ?_)
 ·
  have h0 := of_decide_eq_true r0
  try simp only [ty] at h0
  (iterate 2 refine k9 (gtf r0) ?_); refine rq rfl rfl rfl rfl rfl ?_ (hp := r0); refine a6 ?_; refine a8 _ rfl (fun _ => ?_) (fun e => by cases e); refine sx7 ?_; refine qy ?_; refine a6 ?_
  exact hx8 rfl rfl rfl (⟨cci (a9x (by omega)).symm, trivial⟩)
 ·
  have h0 := of_decide_eq_false r0
  try simp only [ty] at h0
  (iterate 2 refine qy ?_ (hg := (gff r0))); refine qy ?_; refine a6 ?_; refine a8 _ rfl (fun r1 => ?_) (fun r1 => ?_)
  ·
   have h1 := r1
   have h1 := bn r0 h1
   have h1 := of_decide_eq_true h1
   try simp only [ty] at h1
   refine sx7 ?_; refine qy ?_; refine a6 ?_
   exact hx8 rfl rfl rfl (⟨cci (a9x (by omega)).symm, trivial⟩)
  ·
   have h1 := r1
   have h1 := bn r0 h1
   have h1 := of_decide_eq_false h1
   try simp only [ty] at h1
   refine aa ?_; refine a7 ?_; refine sx7 ?_; (iterate 3 refine qy ?_); refine a6 ?_; refine a8 _ rfl (fun r2 => ?_) (fun r2 => ?_)
   ·
    have h2 := of_decide_eq_true r2
    try simp only [ty] at h2
    refine sx7 ?_; refine qy ?_; refine a6 ?_
    exact hx8 rfl rfl rfl (⟨cci (as0 (by omega) (by omega)).symm, trivial⟩)
   ·
    have h2 := of_decide_eq_false r2
    try simp only [ty] at h2
    refine aa ?_; refine sx7 ?_; refine qy ?_; refine a6 ?_; refine a7 ?_; refine sx7 ?_; refine qy ?_; refine a6 ?_; refine ae ?_
    refine ai (ι := Nat) ⟨[(0, some _), (1, some _)], []⟩ ⟨⟨c9, c9, trivial⟩, trivial⟩ (fun i => ⟨[(5, some (vA (orL (ps.take i)))), (6, some (vI i))], []⟩) (fun i => i ≤ ps.length) (fun i => ps.length - i) (0) (Nat.zero_le _) ⟨⟨⟨_, rfl, (CoR.refl _)⟩, zy, trivial⟩, trivial⟩ ?_
    rintro i hi
    refine a7 ?_; refine sx7 ?_; (iterate 4 refine qy ?_); refine a6 ?_; refine a8 _ rfl (fun r3 => ?_) (fun r3 => ?_)
    ·
     have h3 := of_decide_eq_true r3
     try simp only [ty] at h3
     refine aa ?_; refine a7 ?_; refine ae ?_; refine gy ?_; (iterate 7 refine qy ?_); refine a6 ?_; refine gy ?_; (iterate 3 refine qy ?_); refine a6 ?_; refine ⟨i + 1, ?_, ?_, ?_⟩
     · show i + 1 ≤ _; omega
     · first | omega | (dsimp only; omega)
     · exact ⟨⟨⟨_, rfl, (c8 (by rw [bOr, yf (by omega)]; rfl))⟩, zy, c9, c9, trivial⟩, trivial⟩
    ·
     have h3 := of_decide_eq_false r3
     try simp only [ty] at h3
     obtain rfl : i = ps.length := by omega
     rw [show ps.take ps.length = ps from List.take_length]
     refine ak ?_; refine a7 ?_; refine sx7 ?_; (iterate 4 refine qy ?_); refine bc rfl rfl (fun r4 => ?_) (fun r4 => ?_)
     ·
      have h4 := of_decide_eq_true r4
      try simp only [ty] at h4
      (iterate 4 refine k9 (gtf r4) ?_); refine rq rfl rfl rfl rfl rfl ?_ (hp := r4); refine a6 ?_; refine a8 _ rfl (fun _ => ?_) (fun e => by cases e); refine sx7 ?_; refine qy ?_; refine a6 ?_
      exact hx8 rfl rfl rfl (⟨cci (aa3 (by omega) (by omega) (by first | exact .inl (by omega) | exact .inr (fun e => absurd (show asI (orL ps) = asI (aq n) by rw [e]) (by assumption)))).symm, trivial⟩)
     ·
      have h4 := of_decide_eq_false r4
      try simp only [ty] at h4
      (iterate 2 refine qy ?_ (hg := (gff r4))); refine rc rfl rfl rfl rfl rfl rfl zd (a0s n) (CoL.refl _) rfl (gff r4) ?_; refine qy ?_ (hg := (gff r4)); refine qy ?_; refine a6 ?_
      refine a8 _ rfl (fun r5 => ?_) (fun r5 => ?_)
      ·
       have h5 := r5
       have h5 := bn r4 h5
       have h5 := of_decide_eq_false (ax h5)
       try simp only [ty] at h5
       refine sx7 ?_; refine qy ?_; refine a6 ?_
       exact hx8 rfl rfl rfl (⟨cci (aa3 (by omega) (by omega) (by first | exact .inl (by omega) | exact .inr (fun e => absurd (show asI (orL ps) = asI (aq n) by rw [e]) (by assumption)))).symm, trivial⟩)
      ·
       have h5 := r5
       have h5 := bn r4 h5
       have h5 := of_decide_eq_true (aw h5)
       try simp only [ty] at h5
       refine aa ?_; refine sx7 ?_; refine qy ?_; refine a6 ?_; refine am ?_; refine ⟨.inr rfl, ?_⟩
       exact ⟨_, _, _, _, rfl, (by (repeat' apply And.intro) <;> first | trivial | exact Nat.le_of_ble_eq_true rfl | rfl), rfl, (by (repeat' apply And.intro) <;> first | trivial | exact Nat.le_of_ble_eq_true rfl | rfl), ⟨cci (aha (by omega) (by omega) (fun e => by
        rcases e with e | e
        · omega
        · exact e (db.1 (by assumption)))).symm, trivial⟩⟩
theorem azj : goodFn Tryz.prog 95 := ⟨Tryz.f95, Tryz.func95, by kernel_rfl, by kernel_rfl⟩
theorem avq (n : Int) (ps : List AS) (p m : List Fd) : ah Tryz.prog 95 [pI n, pP (asl ps), pP (fdl p), pP (fdl m)] (ap [pP (stl (rcR n ps p m).1), pP (psl 2 tbC (rcR n ps p m).2.1), pI (rcR n ps p m).2.2]) := by
 refine ag (nt := 77) af Tryz.func95 rfl rfl l9 ?_; refine sx7 ?_; (iterate 3 refine qy ?_); refine a6 ?_; refine a7 ?_; refine sx7 ?_; (iterate 2 refine qy ?_)
 refine rc rfl rfl rfl rfl rfl rfl awr (aoq n ps) (CoL.refl _) rfl rfl ?_; refine qy ?_; refine a6 ?_; refine sx7 ?_; (iterate 2 refine qy ?_); refine a6 ?_; refine a8 _ rfl (fun r0 => ?_) (fun r0 => ?_)
 ·
  have h0 := r0
  have h0 := of_decide_eq_false (ax h0)
  try simp only [ty] at h0
  refine sx7 ?_; (iterate 4 refine qy ?_); refine a6 ?_; refine am ?_; refine ⟨.inr rfl, ?_⟩
  have he := ai3 (n := n) (ps := ps) (p := p) (m := m) (as2 (by assumption)).1 (by assumption)
  exact f9 rfl rfl (by rw [he]; exact ⟨CoC.one (CoP.sl rfl (.inr rfl) (fun _ => rfl) (fun i j hi _ => absurd hi (Nat.not_lt_zero i))), CoC.one (CoP.sl rfl (.inr rfl) (fun _ => rfl) (fun i j hi _ => absurd hi (Nat.not_lt_zero i))), CoC.refl _, trivial⟩)
 ·
  have h0 := r0
  have h0 := of_decide_eq_true (aw h0)
  try simp only [ty] at h0
  have hv : lvE n ps = 0 := by assumption
  refine aa ?_; refine a7 ?_; refine sx7 ?_; (iterate 3 refine qy ?_); refine rc rfl rfl rfl rfl rfl rfl a1m (y6 n p m) (CoL.refl _) rfl rfl ?_; refine qy ?_; refine a6 ?_; refine sx7 ?_
  (iterate 2 refine qy ?_); refine a6 ?_; refine a8 _ rfl (fun r1 => ?_) (fun r1 => ?_)
  ·
   have h1 := r1
   have h1 := of_decide_eq_false (ax h1)
   try simp only [ty] at h1
   refine sx7 ?_; (iterate 4 refine qy ?_); refine a6 ?_; refine am ?_; refine ⟨.inr rfl, ?_⟩
   have he := ai3 (n := n) (ps := ps) (p := p) (m := m) (b29 hv (by assumption)).1 (by assumption)
   exact f9 rfl rfl (by rw [he]; exact ⟨CoC.one (CoP.sl rfl (.inr rfl) (fun _ => rfl) (fun i j hi _ => absurd hi (Nat.not_lt_zero i))), CoC.one (CoP.sl rfl (.inr rfl) (fun _ => rfl) (fun i j hi _ => absurd hi (Nat.not_lt_zero i))), CoC.refl _, trivial⟩)
  ·
   have h1 := r1
   have h1 := of_decide_eq_true (aw h1)
   try simp only [ty] at h1
   have hb : cu n p m = 0 := by assumption
   refine aa ?_; refine sx7 ?_; (iterate 2 refine qy ?_); refine rc rfl rfl rfl rfl rfl rfl avf (apt n ps hv) (CoL.refl _) rfl rfl ?_; (iterate 3 refine qy ?_); refine m9 0 ?_; refine s9 ?_; refine qy ?_
   refine a6 ?_; refine a7 ?_; refine sx7 ?_; (iterate 2 refine qy ?_); refine a6 ?_; refine a8 _ rfl (fun e => by cases e) (fun _ => ?_); refine aa ?_; refine sx7 ?_; (iterate 3 refine qy ?_)
   refine rc rfl rfl rfl rfl rfl rfl axb (anu n ps p m) (CoL.refl _) rfl rfl ?_; (iterate 4 refine qy ?_); refine m9 1 ?_; refine qy ?_; refine s9 ?_; refine qy ?_; refine a6 ?_; refine a7 ?_; refine sx7 ?_
   (iterate 2 refine qy ?_); refine a6 ?_; refine a8 _ rfl (fun r2 => ?_) (fun r2 => ?_)
   ·
    have h2 := r2
    have h2 := of_decide_eq_false (ax h2)
    try simp only [ty] at h2
    refine sx7 ?_; (iterate 4 refine qy ?_); refine a6 ?_; refine am ?_; refine ⟨.inr rfl, ?_⟩
    have he := ai3 (n := n) (ps := ps) (p := p) (m := m) (aa4 hv hb) (by assumption)
    exact f9 rfl rfl (by rw [he]; exact ⟨CoC.one (CoP.sl rfl (.inr rfl) (fun _ => rfl) (fun i j hi _ => absurd hi (Nat.not_lt_zero i))), CoC.one (CoP.sl rfl (.inr rfl) (fun _ => rfl) (fun i j hi _ => absurd hi (Nat.not_lt_zero i))), CoC.refl _, trivial⟩)
   ·
    have h2 := r2
    have h2 := of_decide_eq_true (aw h2)
    try simp only [ty] at h2
    have hc : (lsT n ps p m).2.2 = 0 := by assumption
    have htr := azy hv hb hc
    have hfew : (lsT n ps p m).1.length ≤ 1300000 := agh (p := p) (m := m) hv hb
    have hls : lsC n ps p m = 0 := (aa4 hv hb).trans hc
    refine aa ?_; refine sx7 ?_; refine qy ?_; refine m9 2 ?_; refine qy ?_; refine a6 ?_; refine a7 ?_; refine sx7 ?_; refine qy ?_; refine a6 ?_; refine ae ?_
    refine ai (ι := Nat) ⟨[(2, some _), (3, some _), (13, some _), (15, some _)], []⟩ ⟨⟨c9, c9, c9, c9, trivial⟩, trivial⟩ (fun i => ⟨[(17, some (.v (.one (.ref 2 ((jg n p m (b4 (bg n ps)) (lsT n ps p m).1).take (i + 1)).length)))), (18, some (vI i))], [(0, some (.box [.p (.raw (.int .i64 n)), .p (rl ((trL n p m (b4 (bg n ps)) (lsT n ps p m).1).getD i default))])), (2, some (.arr true 2 120 ((jg n p m (b4 (bg n ps)) (lsT n ps p m).1).take (i + 1)).length (lf tbC ((jg n p m (b4 (bg n ps)) (lsT n ps p m).1).take (i + 1)))))]⟩) (fun i => i ≤ (lsT n ps p m).1.length) (fun i => (lsT n ps p m).1.length - i) (0) (Nat.zero_le _) ⟨⟨⟨_, rfl, (u6 (by rw [abr]; rfl))⟩, zy, trivial⟩, ⟨⟨_, rfl, (by rw [atj]; exact CoO.refl _)⟩, ⟨_, rfl, (asq abr rfl (CoP.refl _) (CoP.refl _))⟩, trivial⟩⟩ ?_
    rintro i hi
    have hlen : ((jg n p m (b4 (bg n ps)) (lsT n ps p m).1).take (i + 1)).length ≤ i + 1 := by rw [List.length_take]; omega
    refine a7 ?_; refine sx7 ?_; (iterate 4 refine qy ?_); refine a6 ?_; refine a8 _ rfl (fun r3 => ?_) (fun r3 => ?_)
    ·
     have h3 := of_decide_eq_true r3
     try simp only [ty] at h3
     obtain ⟨hx1, hx2, hx3⟩ := b0v (by omega) (asd htr (i := i) (by omega))
     refine aa ?_; refine a7 ?_; refine ae ?_; refine a7 ?_; refine b7 (E := bm) af ar [0, 1, 2, 3, 4, 5, 6, 7, 8, 9, 10, 11] ?_; (iterate 7 refine qy ?_)
     refine rc rfl rfl rfl rfl rfl rfl agn (akk n ((trL n p m (b4 (bg n ps)) (lsT n ps p m).1).getD i default) p m ((lsT n ps p m).1.getD i default) hx1 hb hx2 hx3) (CoL.refl _) rfl rfl ?_
     (iterate 3 refine qy ?_); refine s9 ?_; refine a6 ?_; refine ⟨by kernel_rfl, ?_⟩; refine gy ?_; (iterate 2 refine qy ?_); refine m9 3 ?_; refine ra 4 true rfl rfl rfl rfl rfl rfl ?_; refine qy ?_; refine a6 ?_
     refine gy ?_; (iterate 3 refine qy ?_); refine a6 ?_; refine ⟨i + 1, ?_, ?_, ?_⟩
     · show i + 1 ≤ _; omega
     · first | omega | (dsimp only; omega)
     · exact ⟨⟨⟨_, rfl, (dc (a9h (by omega)))⟩, zy, c9, c9, c9, c9, trivial⟩, ⟨⟨_, rfl, (by rw [a79 (by omega)]; exact CoO.refl _)⟩, ⟨_, rfl, (j3 (a9h (by omega)) (CoP.refl _) (CoP.refl _))⟩, trivial⟩⟩
    ·
     have h3 := of_decide_eq_false r3
     try simp only [ty] at h3
     obtain rfl : i = (lsT n ps p m).1.length := by omega
     refine ak ?_; refine a7 ?_; refine br 17 rfl rfl rfl ?_; refine gy ?_; (iterate 5 refine qy ?_); refine a6 ?_; refine am ?_; refine ⟨.inr rfl, ?_⟩
     have he := aa0 hls
     exact f9 rfl rfl (by rw [he]; exact ⟨CoC.refl _, (by rw [List.take_of_length_le (by rw [a44]; omega)]; exact CoC.refl _), CoC.refl _, trivial⟩)
theorem ays : goodFn Tryz.prog 49 := ⟨Tryz.f49, Tryz.func49, by kernel_rfl, by kernel_rfl⟩
theorem ast (n : Int) (ps : List AS) (p m : List Fd) : ah Tryz.prog 49 [pI n, pP (asl ps), pP (fdl p), pP (fdl m)] (ap [pP (stl (prS n ps p m)), pI (prC n ps p m)]) := by
 refine ag (nt := 42) af Tryz.func49 rfl rfl l9 ?_; refine sx7 ?_; (iterate 2 refine qy ?_); refine a6 ?_; refine sx7 ?_; (iterate 4 refine qy ?_)
 refine rc rfl rfl rfl rfl rfl rfl azj (avq n ps p m) (CoL.refl _) rfl rfl ?_; (iterate 7 refine qy ?_); refine a6 ?_; refine a7 ?_; refine sx7 ?_; (iterate 2 refine qy ?_); refine a6 ?_
 refine a8 _ rfl (fun r0 => ?_) (fun r0 => ?_)
 ·
  have h0 := r0
  have h0 := of_decide_eq_false (ax h0)
  try simp only [ty] at h0
  refine sx7 ?_; (iterate 3 refine qy ?_); refine a6 ?_; refine am ?_; refine ⟨.inr rfl, ?_⟩
  have hn : ¬ (rcR n ps p m).2.2 = 0 := by assumption
  have e1 : prS n ps p m = [] := if_neg hn
  have e2 : prC n ps p m = (rcR n ps p m).2.2 := if_neg hn
  exact f9 rfl rfl (by rw [e1, e2]; exact ⟨CoC.one (CoP.sl rfl (.inr rfl) (fun _ => rfl) (fun i j hi _ => absurd hi (Nat.not_lt_zero i))), CoC.refl _, trivial⟩)
 ·
  have h0 := r0
  have h0 := of_decide_eq_true (aw h0)
  try simp only [ty] at h0
  have hc : (rcR n ps p m).2.2 = 0 := by assumption
  obtain ⟨hz0, hz1, hfew0⟩ := b2f hc
  have hfew : (rcR n ps p m).1.length ≤ 1300000 := hfew0
  have hln := b08 hc
  refine aa ?_; refine a7 ?_; refine sx7 ?_; refine qy ?_; refine a6 ?_; refine ae ?_
  refine ai (ι := Nat) ⟨[(0, some _), (10, some _), (11, some _)], []⟩ ⟨⟨c9, c9, c9, trivial⟩, trivial⟩ (fun i => ⟨[(13, some (vI i))], []⟩) (fun i => i ≤ (rcR n ps p m).2.1.length ∧ (∀ j, j < i → a6k n ((rcR n ps p m).2.1.getD j default).2 = false)) (fun i => (rcR n ps p m).2.1.length - i) (0) (⟨Nat.zero_le _, fun j hj => absurd hj (Nat.not_lt_zero j)⟩) ⟨⟨zy, trivial⟩, trivial⟩ ?_
  rintro i ⟨hi, hI⟩
  refine a7 ?_; refine sx7 ?_; (iterate 4 refine qy ?_); refine a6 ?_; refine a8 _ rfl (fun r1 => ?_) (fun r1 => ?_)
  ·
   have h1 := of_decide_eq_true r1
   try simp only [ty] at h1
   refine aa ?_; refine a7 ?_; refine ae ?_; refine a7 ?_; refine b7 (E := bm) af ar [0, 1, 2, 3, 4, 5, 6] ?_; (iterate 5 refine qy ?_)
   refine rc rfl rfl rfl rfl rfl rfl ayj (axm n hz1) (CoL.refl _) rfl rfl ?_
   refine rc rfl rfl rfl rfl rfl rfl aca (adh ((rcR n ps p m).2.1.getD i default).1 ((rcR n ps p m).2.1.getD i default).2 (cg n)) (CoL.refl _) rfl rfl ?_; refine a6 ?_; refine ⟨by kernel_rfl, ?_⟩
   refine a8 _ rfl (fun r2 => ?_) (fun r2 => ?_)
   ·
    have h2 := r2
    have hx : prX n ps p m = (i : Int) := xh (p := (fun a : Int × List Rw => a6k n a.2)) (i := i) (by omega) hI (by assumption)
    refine sx7 ?_; (iterate 5 refine qy ?_); refine a6 ?_; refine am ?_; refine ⟨.inr rfl, ?_⟩
    have e1 : prS n ps p m = (rcR n ps p m).1.take i := by
     unfold prS
     rw [if_pos hc, if_neg (by omega), hx]
     rfl
    have e2 : prC n ps p m = 0 := by
     unfold prC
     rw [if_pos hc, if_neg (by omega)]
    exact f9 rfl rfl (by rw [e1, e2]; exact ⟨CoC.one (aov (by rw [List.length_take]; dsimp only [im, c4]; omega) (fun a j => by first | rfl | (simp; rfl))), CoC.refl _, trivial⟩)
   ·
    have h2 := r2
    refine aa ?_; refine gy ?_; (iterate 3 refine qy ?_); refine a6 ?_; refine ⟨i + 1, ?_, ?_, ?_⟩
    · refine ⟨by omega, fun j hj => ?_⟩
      by_cases e : j = i
      · rw [e]; assumption
      · exact hI j (by omega)
    · first | omega | (dsimp only; omega)
    · exact ⟨⟨zy, c9, c9, c9, trivial⟩, trivial⟩
  ·
   have h1 := of_decide_eq_false r1
   try simp only [ty] at h1
   have hx : prX n ps p m < 0 := by
    have : prX n ps p m = -1 := xx (p := (fun a : Int × List Rw => a6k n a.2)) fun j hj => hI j (by omega)
    omega
   refine ak ?_; refine sx7 ?_; (iterate 2 refine qy ?_); refine a6 ?_; refine am ?_; refine ⟨.inr rfl, ?_⟩
   have e1 : prS n ps p m = [] := by
    unfold prS
    rw [if_pos hc, if_pos hx]
   have e2 : prC n ps p m = 11 := by
    unfold prC
    rw [if_pos hc, if_pos hx]
   exact f9 rfl rfl (by rw [e1, e2]; exact ⟨CoC.one (CoP.sl rfl (.inr rfl) (fun _ => rfl) (fun i j hi _ => absurd hi (Nat.not_lt_zero i))), CoC.refl _, trivial⟩)
theorem azx : goodFn Tryz.prog 18 := ⟨Tryz.f18, Tryz.func18, by kernel_rfl, by kernel_rfl⟩
theorem b2p (n : Int) (ps : List AS) (p m : List Fd) : ah Tryz.prog 18 [pI n, pP (asl ps), pP (fdl p), pP (fdl m)] (ap [pB (lsB n ps p m), pI (lsC n ps p m)]) := by
 refine ag (nt := 25) af Tryz.func18 rfl rfl l9 ?_; refine sx7 ?_; (iterate 2 refine qy ?_); refine a6 ?_; refine sx7 ?_; (iterate 4 refine qy ?_)
 refine rc rfl rfl rfl rfl rfl rfl ays (ast n ps p m) (CoL.refl _) rfl rfl ?_; (iterate 5 refine qy ?_); refine a6 ?_; refine a7 ?_; refine sx7 ?_; (iterate 2 refine qy ?_); refine a6 ?_
 refine a8 _ rfl (fun r0 => ?_) (fun r0 => ?_)
 ·
  have h0 := of_decide_eq_true r0
  try simp only [ty] at h0
  refine sx7 ?_; (iterate 2 refine qy ?_); refine a6 ?_; refine am ?_; refine ⟨.inr rfl, ?_⟩
  obtain ⟨e1, e2⟩ := b1n (n := n) (ps := ps) (p := p) (m := m) (by assumption)
  exact f9 rfl rfl (⟨ccb e1.symm, cci e2.symm, trivial⟩)
 ·
  have h0 := of_decide_eq_false r0
  try simp only [ty] at h0
  refine aa ?_; refine sx7 ?_; (iterate 5 refine qy ?_); refine a6 ?_; refine am ?_; refine ⟨.inr rfl, ?_⟩
  obtain ⟨e1, e2⟩ := b13 (n := n) (ps := ps) (p := p) (m := m) (by assumption)
  exact f9 rfl rfl (⟨ccb e1, cci e2, trivial⟩)
end Go.Hx
end
section
namespace Go.Hx
inductive Lf (l : List Fd) : AS → AS → Prop
 | leaf {s : AS} : rt l s = false → Lf l s s
 | left {s q : AS} : rt l s = true → Lf l (spA l s) q → Lf l s q
 | right {s q : AS} : rt l s = true → Lf l (spB l s) q → Lf l s q
def axl (l : List Fd) : Nat → AS → List AS
 | 0, s => [s]
 | k + 1, s => if rt l s = true then axl l k (spA l s) ++ axl l k (spB l s) else [s]
theorem a78 {f : AS → Bool} {ps : List AS} {i : Nat} (h : i < ps.length) : (ps.take (i + 1)).all f = ((ps.take i).all f && f (ps.getD i default)) := by
 rw [bt h, List.all_append]
 simp
theorem ark {s : Nat} {f : Nat → Nat → PV} : CoC (.one (.sl 0 s true f)) (pP (fdl [])) := CoC.one (CoP.sl rfl (.inr rfl) (fun h => by cases h) fun i j hi _ => absurd hi (Nat.not_lt_zero i))
end Go.Hx
end
section
namespace Go.Hx
open Go.Proofs
def u8A (b : BitVec 8) : AS := b.setWidth 32
abbrev u8C : BitVec 8 → Nat → PV := fun b _ => .raw (.int .u8 (b.toNat : Int))
end Go.Hx
end
section
namespace Go.Hx
open Go.Proofs Go.Proofs.YtidophngianjiaaGreatDoor
open Go.RowKit Go.ChangeShapes Go.WideShapes Go.ChangeAt
theorem rd5 : Rd Tryz.prog 5 1 u8C := (b0y Tryz.underlying5).co (fun u => u.toBitVec) fun a j hj => CoP.refl _
theorem b18 : Rd Tryz.prog 136 2 Dp.c := by
 intro H enc w sp held fuel cs x h
 obtain ⟨hl, n, hf⟩ := an0 Tryz.underlying136 h
 obtain ⟨y0, e0⟩ := hf 0 _ rfl
 obtain ⟨y1, e1⟩ := hf 1 _ rfl
 obtain ⟨a0, h0⟩ := acx rd5 e0
 obtain ⟨a1, h1⟩ := acx rd5 e1
 refine ⟨hl.trans (by kernel_rfl), (⟨a0, a1⟩ : Dp), fun j hj => ?_⟩
 match j, hj with
 | 0, _ => exact h0 0 (by omega)
 | 1, _ => exact h1 0 (by omega)
theorem b20 : RdB Tryz.prog 22 1 (b04 2 Dp.c) fun b l => l.length ≤ b :=
 (akg (B := fun _ _ => True) (fun _ _ _ _ _ => trivial) Tryz.underlying22 (by kernel_rfl) (by omega) b18.toB).co id (fun b a h => h.1) fun a j hj => CoP.refl _
theorem b2s : RdB Tryz.prog 24 2 Dps.c fun b d => d.l.length ≤ b := by
 intro H enc w sp held fuel cs x h
 obtain ⟨hl, n, hf⟩ := aip Tryz.underlying24 h
 obtain ⟨y0, e0⟩ := hf 0 _ rfl
 obtain ⟨y1, e1⟩ := hf 1 _ rfl
 obtain ⟨a0, _, h0⟩ := a9j (fun _ _ _ _ _ => trivial) rd5.toB e0
 obtain ⟨a1, hb, h1⟩ := a9j (B := fun b (l : List Dp) => l.length ≤ b) (fun _ _ _ h k => Nat.le_trans k h) b20 e1
 refine ⟨hl.trans (by kernel_rfl), (⟨a0, a1⟩ : Dps), hb, fun j hj => ?_⟩
 match j, hj with
 | 0, _ => exact h0 0 (by omega)
 | 1, _ => exact h1 0 (by omega)
theorem b0r : Tryz.prog.readableRec 24 = true ∧ 24 < Tryz.prog.types.size := ⟨by kernel_rfl, of_decide_eq_true (by kernel_rfl)⟩
end Go.Hx
end
section
namespace Go.Hx
def j8 (l : List Fd) (p : AS) (k : Nat) : List Fd := (((List.range k).map (BitVec.ofNat 32)).filter fun s => decide (sub s p)).map fun s => ⟨s, clo l s &&& p⟩
def iz (l : List Fd) (ps : List AS) (i : Nat) : List Fd := (ps.take i).flatMap fun p => j8 l p (p.toNat + 1)
theorem azd {l : List Fd} {p : AS} {k : Nat} (h : sub (BitVec.ofNat 32 k) p) : j8 l p (k + 1) = j8 l p k ++ [⟨BitVec.ofNat 32 k, clo l (BitVec.ofNat 32 k) &&& p⟩] := by
 unfold j8
 rw [List.range_succ, List.map_append, List.filter_append, List.map_append]
 simp [h]
theorem axr {l : List Fd} {p : AS} {k : Nat} (h : ¬ sub (BitVec.ofNat 32 k) p) : j8 l p (k + 1) = j8 l p k := by
 unfold j8
 rw [List.range_succ, List.map_append, List.filter_append, List.map_append]
 simp [h]
theorem ad9 (l : List Fd) (p : AS) (k : Nat) : (j8 l p k).length ≤ k := by
 unfold j8
 rw [List.length_map]
 exact Nat.le_trans (List.length_filter_le _ _) (by simp)
theorem yy {l : List Fd} {ps : List AS} {i : Nat} (h : i < ps.length) : iz l ps (i + 1) = iz l ps i ++ j8 l (ps.getD i default) ((ps.getD i default).toNat + 1) := by
 unfold iz
 rw [bt h, List.flatMap_append]
 simp
theorem aaw {l : List Fd} {ps : List AS} (hb : ∀ q, q ∈ ps → q.toNat < 65536) : ∀ i, i ≤ ps.length → (iz l ps i).length ≤ i * 65536
 | 0, _ => by simp [iz]
 | i + 1, h => by
  have h1 := aaw (l := l) hb i (by omega)
  have h2 := ad9 l (ps.getD i default) ((ps.getD i default).toNat + 1)
  have h3 := hb _ (d7 (l := ps) (i := i) (by omega))
  rw [yy (by omega), List.length_append]
  omega
theorem aax {l : List Fd} {p : AS} {f : Fd} : f ∈ j8 l p (p.toNat + 1) ↔ sub f.lhs p ∧ f.rhs = clo l f.lhs &&& p := by
 unfold j8
 constructor
 · intro h
   obtain ⟨s, hs, rfl⟩ := List.mem_map.1 h
   exact ⟨of_decide_eq_true (List.mem_filter.1 hs).2, rfl⟩
 · rintro ⟨h1, h2⟩
   refine List.mem_map.2 ⟨f.lhs, List.mem_filter.2 ⟨List.mem_map.2 ⟨f.lhs.toNat, List.mem_range.2 (by have := a5a h1; omega), ?_⟩, decide_eq_true h1⟩, ?_⟩
   · exact BitVec.eq_of_toNat_eq (by rw [BitVec.toNat_ofNat, Nat.mod_eq_of_lt f.lhs.isLt])
   · rw [← h2]
theorem acn {l : List Fd} {ps : List AS} {f : Fd} : f ∈ iz l ps ps.length ↔ ∃ p, p ∈ ps ∧ sub f.lhs p ∧ f.rhs = clo l f.lhs &&& p := by
 unfold iz
 rw [List.take_length, List.mem_flatMap]
 constructor
 · rintro ⟨p, hp, h⟩
   exact ⟨p, hp, aax.1 h⟩
 · rintro ⟨p, hp, h⟩
   exact ⟨p, hp, aax.2 h⟩
theorem aag {l : List Fd} {ps : List AS} {t : AS} : l5 (iz l ps ps.length) t ↔ a5x l ps t := by
 constructor
 · intro h p hp
   have := h ⟨t &&& p, clo l (t &&& p) &&& p⟩ (acn.2 ⟨p, hp, kn, rfl⟩) d8
   exact this
 · intro h f hf hs
   obtain ⟨p, hp, h1, h2⟩ := acn.1 hf
   rw [h2]
   refine b6 (kc ?_ kn) (h p hp)
   exact b6 d8 (jo (kc hs h1))
theorem atm {l : List Fd} {ps : List AS} {z : AS} : clo (iz l ps ps.length) z = k6 l ps z :=
 df (gu (aag.2 (xv l ps z)) wn) (a6t (aag.1 ey) j5)
theorem af2 {l : List Fd} {ps : List AS} {f : Fd} : imp (iz l ps ps.length) f = jw l ps f := by
 unfold imp jw
 rw [atm]
def a7h (a b : List Fd) : Bool := b.any fun f => !imp a f
theorem b1e {a b : List Fd} {i : Nat} (hi : i < b.length) (h : imp a (b.getD i default) = false) : a7h a b = true := List.any_eq_true.2 ⟨_, d7 hi, by rw [h]; rfl⟩
theorem b1k {a b : List Fd} (h : ∀ j, j < b.length → imp a (b.getD j default) = true) : a7h a b = false := by
 unfold a7h
 rw [List.any_eq_false]
 intro f hf
 obtain ⟨j, hj, rfl⟩ := mw hf
 rw [h j hj]
 decide
theorem av4 {l : List Fd} {ps : List AS} : (!a7h (iz l ps ps.length) l) = fv l ps := by
 unfold a7h
 rw [← List.all_eq_not_any_not, Bool.eq_iff_iff, List.all_eq_true, a49]
 exact ⟨fun h f hf => by have := h f hf; rwa [af2] at this, fun h f hf => by rw [af2]; exact h f hf⟩
def a0e (n : Int) (l : List Fd) (ps : List AS) : Int := if av n l = 0 then lsC n ps l [] else av n l
def pg (n : Int) (l : List Fd) (ps : List AS) : Bool := decide (av n l = 0) && (lsB n ps l [] && fv l ps && ps.all (ci l))
section
variable {n : Int} {l : List Fd} {ps : List AS}
theorem as7 (h : ¬ av n l = 0) : a0e n l ps = av n l ∧ pg n l ps = false := ⟨if_neg h, by unfold pg; rw [decide_eq_false h]; rfl⟩
theorem b1r (h : av n l = 0) (h2 : ¬ lvE n ps = 0) : a0e n l ps = lvE n ps ∧ pg n l ps = false := by
 obtain ⟨e1, e2⟩ := as2 (p := l) (m := []) h2
 exact ⟨(if_pos h).trans e1, by unfold pg; rw [e2]; simp⟩
theorem as6 (h : av n l = 0) (h2 : ¬ lsC n ps l [] = 0) : a0e n l ps = lsC n ps l [] ∧ pg n l ps = false := by
 refine ⟨if_pos h, ?_⟩
 have : lsB n ps l [] = false := by unfold lsB; rw [decide_eq_false h2]; rfl
 unfold pg
 rw [this]
 simp
theorem agz (h : av n l = 0) (h2 : lsC n ps l [] = 0) : a0e n l ps = 0 ∧ pg n l ps = (lsB n ps l [] && fv l ps && ps.all (ci l)) := by
 refine ⟨(if_pos h).trans h2, ?_⟩
 unfold pg
 rw [decide_eq_true h, Bool.true_and]
theorem au2 (h0 : 0 ≤ n) (h8 : n ≤ 8) {q : AS} (hq : sub q (aq n)) : q.toNat < 65536 := by
 have h1 := a5a hq
 have h2 : ∀ k, k ≤ 8 → (j7 k).toNat < 65536 := by decide +kernel
 have h3 : (aq n).toNat < 65536 := h2 (min n.toNat 32) (by omega)
 omega
theorem as8 (h : lvE n ps = 0) {q : AS} (hq : q ∈ ps) : q.toNat < 65536 := au2 (kz h).1 (kz h).2.1 (ad0 h hq)
theorem az4 {f : AS → Bool} {i : Nat} (hi : i < ps.length) (h : f (ps.getD i default) = false) : ps.all f = false := by
 rw [Bool.eq_false_iff]
 intro e
 have := List.all_eq_true.1 e _ (d7 hi)
 rw [h] at this
 cases this
theorem avm {f : AS → Bool} (h : ∀ j, j < ps.length → f (ps.getD j default) = true) : ps.all f = true := List.all_eq_true.2 fun q hq => by
 obtain ⟨j, hj, rfl⟩ := mw hq
 exact h j hj
end
end Go.Hx
end
section
namespace Go.Hx
open Go.Proofs
def b3e (n : Int) (l : List Fd) (i : Nat) : Bool := ((ja n l).take i).any (eo n l)
section
variable {n : Int} {l : List Fd}
end
section
variable {d : Dps}
theorem avg (hM : ∀ k : List Fd, k.length ≤ 16777216 → ah Tryz.prog 137 [pP (fdl k)] (ap [pP (fdl (ow k))])) (h : d.l.length ≤ 6) : ah Tryz.prog 43 [pI d.num, pP (fdl d.fds)] (ap [pP (asl (ja d.num d.fds)), pI 0]) := by
 have hh := afx hM d.num d.fds
 rw [wv h] at hh
 exact hh
end
end Go.Hx
end
section
namespace Go.Hx
def ui (l : List Fd) (z : Int) : Option PV := match l.find? (fun f => decide (asI f.lhs = z)) with | some f => some (asC (mgR l f.lhs)) | none => none
def ya (l : List Fd) : MK → Option PV
 | .i .u32 z => ui l z
 | _ => none
theorem wfA (s : AS) : (Lit.int .u32 (asI s)).wf = true := by
 have h1 := a4h s
 have h2 := a0p s
 have e1 : IntKind.min .u32 = 0 := by decide
 have e2 : IntKind.max .u32 = 4294967295 := by decide
 simp only [Lit.wf, e1, e2, Bool.and_eq_true, decide_eq_true_eq]
 omega
theorem ao5 {l : List Fd} {s : AS} (h : ∀ f ∈ l, ¬ f.lhs = s) : mgR l s = 0 := by
 unfold mgR
 rw [List.filter_eq_nil_iff.2 fun f hf => by simpa using h f hf]
 rfl
theorem a4e {l : List Fd} {s : AS} {f : Fd} (h : l.find? (fun f => decide (asI f.lhs = asI s)) = some f) : f.lhs = s := by
 have := List.find?_some h
 exact db.1 (of_decide_eq_true this)
theorem a5s (l : List Fd) (s : AS) : xd (ya l) (.i .u32 (asI s)) (.int .u32 0) = asC (mgR l s) := by
 show (match ui l (asI s) with | some y => y | none => l8 (.int .u32 0)) = _
 unfold ui
 cases h : l.find? (fun f => decide (asI f.lhs = asI s)) with
 | some f =>
  have := a4e h
  subst this
  rfl
 | none =>
  rw [ao5 fun f hf e => by
   have := List.find?_eq_none.1 h f hf
   rw [e] at this
   exact this (decide_eq_true rfl)]
  rfl
theorem aml (m : MK) : CoM none (ya [] m) := by
 cases m with
 | i q z => cases q <;> exact CoM.refl _
 | s b => exact CoM.refl _
theorem ajl {l : List Fd} {i : Nat} (hi : i < l.length) (z : Int) : (if z = asI (l.getD i default).lhs then some (PV.raw (.int .u32 (ca .or .u32 (asI (mgR (l.take i) (l.getD i default).lhs)) (asI (l.getD i default).rhs)))) else ui (l.take i) z) = ui (l.take (i + 1)) z := by
 unfold ui
 by_cases hz : z = asI (l.getD i default).lhs
 · subst hz
   rw [if_pos rfl, b2n hi rfl]
   cases h : (l.take (i + 1)).find? (fun f => decide (asI f.lhs = asI (l.getD i default).lhs)) with
   | some f =>
    have := a4e h
    rw [← this]
   | none =>
    have := List.find?_eq_none.1 h (l.getD i default) (by rw [bt hi]; simp)
    exact absurd (decide_eq_true rfl) this
 · rw [if_neg hz, bt hi, List.find?_append]
   have hx : [l.getD i default].find? (fun f => decide (asI f.lhs = z)) = none := by
    rw [List.find?_cons, decide_eq_false (fun e => hz e.symm)]
    rfl
   rw [hx, Option.or_none]
   cases h : (l.take i).find? (fun f => decide (asI f.lhs = z)) with
   | none => rfl
   | some f =>
    have hf0 := List.find?_some h
    have hf : asI f.lhs = z := of_decide_eq_true hf0
    dsimp only
    rw [← bt hi, b1y hi (fun e => hz (by rw [e]; exact hf.symm))]
theorem al0 {l : List Fd} {i : Nat} (hi : i < l.length) (m : MK) : CoM (qp (ya (l.take i)) (.i .u32 (asI (l.getD i default).lhs)) (.raw (.int .u32 (ca .or .u32 (asI (mgR (l.take i) (l.getD i default).lhs)) (asI (l.getD i default).rhs)))) m) (ya (l.take (i + 1)) m) := by
 refine CoM.of_eq ?_
 unfold qp
 cases m with
 | s b => rfl
 | i q z =>
  by_cases hq : q = .u32
  · subst hq
    show (bif (decide True && decide (z = _)) then _ else ui _ z) = ui _ z
    rw [← ajl hi z]
    by_cases hz : z = asI (l.getD i default).lhs
    · rw [if_pos hz, decide_eq_true hz]; rfl
    · rw [if_neg hz, decide_eq_false hz]; rfl
  · have h1 : MK.same (.i q z) (.i .u32 (asI (l.getD i default).lhs)) = false := by
     show (decide _ && decide _) = false
     rw [decide_eq_false hq, Bool.false_and]
    rw [h1]
    cases q <;> first | rfl | exact absurd rfl hq
end Go.Hx
end
section
namespace Go.Hx
open Go.Proofs
set_option maxRecDepth 100000
theorem act (l : List Fd) (hl : l.length ≤ 16777216) : ah Tryz.prog 137 [pP (fdl l)] (ap [pP (fdl (ow l))]) := by
 refine ag (nt := 47) af Tryz.func137 rfl rfl l9 ?_; refine sx7 ?_; refine qy ?_; refine a6 ?_; refine sx7 ?_; refine m9 0 ?_; refine qy ?_; refine a6 ?_; refine sx7 ?_; refine qy ?_; refine a6 ?_
 refine a7 ?_; refine sx7 ?_; (iterate 3 refine qy ?_); refine a6 ?_; refine ae ?_
 refine dp 4 900 true 1 38 (lf sC []) (by decide) rfl (CoP.sl rfl (.inr rfl) (fun h => h) (fun i j hi _ => absurd hi (Nat.not_lt_zero i))) (.inr rfl) rfl ?_
 refine ai (ι := Nat) ⟨[(3, some _), (11, some _), (12, some _)], []⟩ ⟨⟨c9, c9, c9, trivial⟩, trivial⟩ (fun i => ⟨[(4, some (.v (.one (.ref 900 ((l.take i).map Fd.lhs).length)))), (13, some (vI i))], [(0, some (.mp (.int .u32) i (ya (l.take i)))), (900, some (.arr true 1 38 ((l.take i).map Fd.lhs).length (lf sC ((l.take i).map Fd.lhs))))]⟩) (fun i => i ≤ l.length) (fun i => l.length - i) (0) (Nat.zero_le _) ⟨⟨zy, zy, trivial⟩, ⟨⟨_, rfl, ⟨rfl, Nat.le_refl _, aml⟩⟩, u9, trivial⟩⟩ ?_
 rintro i hi
 have hlen : ((l.take i).map Fd.lhs).length ≤ i := by rw [List.length_map, List.length_take]; omega
 refine sx7 ?_; refine qy ?_; refine a6 ?_; refine a7 ?_; refine a8 _ rfl (fun r0 => ?_) (fun r0 => ?_)
 ·
  have h0 := of_decide_eq_true r0
  try simp only [ty] at h0
  refine aa ?_; refine a7 ?_; refine ae ?_; refine sx7 ?_; (iterate 2 refine qy ?_); refine m9 1 ?_; refine s9 ?_; refine a6 ?_; refine sx7 ?_; (iterate 3 refine qy ?_)
  refine rq (out := ⟨_, .v (.one (.p (asC (mgR (l.take i) (l.getD i default).lhs))))⟩) rfl rfl rfl (congrArg (fun z => some (Out.mk _ (HR.v (HC.one (HV.p z))))) (a5s _ _)) rfl ?_ (hp := ⟨rfl, rfl, wfA _⟩)
  (iterate 3 refine qy ?_); refine rs rfl rfl rfl rfl rfl ?_ (hp := ⟨rfl, ⟨rfl, wfA _⟩, by simp only [maxLen]; omega⟩); refine a6 ?_; refine gy ?_; (iterate 3 refine qy ?_); refine m9 2 ?_
  refine ra 3 true rfl rfl rfl rfl rfl rfl ?_; refine qy ?_; refine a6 ?_; refine gy ?_; (iterate 2 refine qy ?_); refine a6 ?_; refine ⟨i + 1, ?_, ?_, ?_⟩
  · show i + 1 ≤ _; omega
  · first | omega | (dsimp only; omega)
  · exact ⟨⟨⟨_, rfl, (dc (vm (by omega)))⟩, zy, c9, c9, c9, trivial⟩, ⟨⟨_, rfl, ⟨rfl, Nat.le_refl _, al0 (by omega)⟩⟩, ⟨_, rfl, (ew (vm (by omega)) (CoP.refl _))⟩, trivial⟩⟩
 ·
  have h0 := of_decide_eq_false r0
  try simp only [ty] at h0
  obtain rfl : i = l.length := by omega
  rw [show (l.take l.length).map Fd.lhs = l.map Fd.lhs by rw [List.take_length], show ya (l.take l.length) = ya l by rw [List.take_length]]
  refine ak ?_; refine sx7 ?_; refine qy ?_; refine a6 ?_; (iterate 2 refine a7 ?_); refine br 4 rfl rfl rfl ?_
  have hol := a14 (l.map Fd.lhs)
  rw [List.length_map] at hol
  refine gy ?_; refine qy ?_; refine rc rfl rfl rfl rfl rfl rfl aao (abw (l.map Fd.lhs) (by rw [List.length_map]; omega)) (CoL.refl _) rfl rfl ?_; (iterate 2 refine qy ?_); refine a6 ?_; refine ae ?_
  refine dp 7 901 true 2 40 (lf Fd.c []) (by decide) rfl (CoP.sl rfl (.inr rfl) (fun h => h) (fun i j hi _ => absurd hi (Nat.not_lt_zero i))) (.inr rfl) rfl ?_
  refine ai (ι := Nat) ⟨[(3, some _), (31, some _), (32, some _)], [(0, some _)]⟩ ⟨⟨c9, c9, c9, trivial⟩, ⟨u9, trivial⟩⟩ (fun k => ⟨[(7, some (.v (.one (.ref 901 (((ord (l.map Fd.lhs)).take k).map (mgF l)).length)))), (33, some (vI k))], [(901, some (.arr true 2 40 (((ord (l.map Fd.lhs)).take k).map (mgF l)).length (lf Fd.c (((ord (l.map Fd.lhs)).take k).map (mgF l)))))]⟩) (fun k => k ≤ (ord (l.map Fd.lhs)).length) (fun k => (ord (l.map Fd.lhs)).length - k) (0) (Nat.zero_le _) ⟨⟨zy, zy, trivial⟩, ⟨u9, trivial⟩⟩ ?_
  rintro k hk
  have hlen2 : (((ord (l.map Fd.lhs)).take k).map (mgF l)).length ≤ k := by rw [List.length_map, List.length_take]; omega
  refine sx7 ?_; refine qy ?_; refine a6 ?_; refine a7 ?_; refine a8 _ rfl (fun r1 => ?_) (fun r1 => ?_)
  ·
   have h1 := of_decide_eq_true r1
   try simp only [ty] at h1
   refine aa ?_; refine a7 ?_; refine ae ?_; refine sx7 ?_; (iterate 3 refine qy ?_); refine a6 ?_; refine gy ?_; (iterate 4 refine qy ?_)
   refine rq (out := ⟨_, .v (.one (.p (asC (mgR l ((ord (l.map Fd.lhs)).getD k default)))))⟩) rfl rfl rfl (congrArg (fun z => some (Out.mk _ (HR.v (HC.one (HV.p z))))) (a5s _ _)) rfl ?_ (hp := ⟨rfl, rfl, wfA _⟩)
   refine qy ?_; refine m9 4 ?_; refine ra 5 true rfl rfl rfl rfl rfl rfl ?_; refine qy ?_; refine a6 ?_; refine gy ?_; (iterate 2 refine qy ?_); refine a6 ?_; refine ⟨k + 1, ?_, ?_, ?_⟩
   · show k + 1 ≤ _; omega
   · first | omega | (dsimp only; omega)
   · exact ⟨⟨⟨_, rfl, (dc (vm (by omega)))⟩, zy, c9, c9, c9, trivial⟩, ⟨⟨_, rfl, (j3 (vm (by omega)) (CoP.refl _) (CoP.refl _))⟩, u9, trivial⟩⟩
  ·
   have h1 := of_decide_eq_false r1
   try simp only [ty] at h1
   obtain rfl : k = (ord (l.map Fd.lhs)).length := by omega
   refine ak ?_; refine sx7 ?_; (iterate 2 refine qy ?_); refine a6 ?_; refine br 2 rfl rfl rfl ?_
   exact hx8 rfl rfl rfl (⟨CoC.one (CoP.of_eq (by rw [List.take_length]; rfl)), trivial⟩)
end Go.Hx
end
section
namespace Go.Hx
open Go.Proofs
theorem aon {n : Int} {l : List Fd} {p : AS} (hv : av n l = 0) (hs : sub p (aq n)) : ah Tryz.prog 84 [pI n, pP (fdl l), pA p] (ap [pB (ci l p), pI 0]) := by
 have h := aw9 n l p
 have e1 : qv n l p = 0 := by unfold qv; rw [if_pos hv, if_pos hs]
 have e2 : yg n l p = ci l p := by unfold yg; rw [decide_eq_true e1, Bool.true_and]
 rw [e1, e2] at h
 exact h
def abd (a b : List Fd) : Int := let i := idx (fun f => !imp a f) b; if i < 0 then 0 else i
theorem azm {a b : List Fd} {i : Nat} (hi : i < b.length) (hI : ∀ j, j < i → imp a (b.getD j default) = true) (h : imp a (b.getD i default) = false) : abd a b = (i : Int) := by
 have e : idx (fun f => !imp a f) b = (i : Int) := xh hi (fun j hj => by rw [hI j hj]; rfl) (by rw [h]; rfl)
 unfold abd
 simp only
 rw [e, if_neg (by omega)]
theorem ayg {a b : List Fd} (hI : ∀ j, j < b.length → imp a (b.getD j default) = true) : abd a b = 0 := by
 have e : idx (fun f => !imp a f) b = -1 := xx fun j hj => by rw [hI j hj]; rfl
 unfold abd
 simp only
 rw [e]
 rfl
theorem a5e {l : List Fd} {ps : List AS} {i k : Nat} {p : AS} (h : sub (BitVec.ofNat 32 k) p) : iz l ps i ++ j8 l p (k + 1) = (iz l ps i ++ j8 l p k) ++ [⟨BitVec.ofNat 32 k, clo l (BitVec.ofNat 32 k) &&& p⟩] := by rw [azd h, List.append_assoc]
theorem a4u {l : List Fd} {ps : List AS} {i k : Nat} {p : AS} (h : ¬ sub (BitVec.ofNat 32 k) p) : iz l ps i ++ j8 l p (k + 1) = iz l ps i ++ j8 l p k := by rw [axr h]
theorem ahd {n : Int} {l : List Fd} {ps : List AS} (hv : av n l = 0) (h : ¬ lsC n ps l [] = 0 ∨ (lsB n ps l [] && fv l ps) = false) : a0e n l ps = lsC n ps l [] ∧ pg n l ps = false := by
 rcases h with h | h
 · exact as6 hv h
 · refine ⟨if_pos hv, ?_⟩
   unfold pg
   rw [h]
   simp
end Go.Hx
end
