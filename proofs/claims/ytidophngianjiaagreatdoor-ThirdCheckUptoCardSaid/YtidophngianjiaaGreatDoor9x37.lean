/- A part of the proof: W1 Ls6 W2a Rbm Ls8 Cs43 Cs44 V39 W5a. -/
import Derived.Test.YtidophngianjiaaGreatDoor9x17
import Derived.Test.YtidophngianjiaaGreatDoor9x20
import Derived.Test.YtidophngianjiaaGreatDoor9x21
import Derived.Test.YtidophngianjiaaGreatDoor9x22
import Derived.Test.YtidophngianjiaaGreatDoor9x23
import Derived.Test.YtidophngianjiaaGreatDoor9x24
import Derived.Test.YtidophngianjiaaGreatDoor9x33
import Derived.Test.YtidophngianjiaaGreatDoor9x35
import Derived.Test.YtidophngianjiaaGreatDoor9x36
set_option linter.all false
section
namespace Go.Hx
open Go.Proofs
set_option maxRecDepth 100000
set_option maxHeartbeats 1000000
theorem ar9 : goodFn Tryz.prog 131 := ⟨Tryz.f131, Tryz.func131, by kernel_rfl, by kernel_rfl⟩
theorem awo (ps : List AS) : ah Tryz.prog 131 [pP (asl ps)] (ap [pA (orL ps)]) := by
 refine ag (nt := 17) af Tryz.func131 rfl rfl l9 ?_; refine sx7 ?_; refine qy ?_; refine a6 ?_; refine sx7 ?_; refine qy ?_; refine a6 ?_; (iterate 2 refine a7 ?_)
 refine cj 0 rfl fun hn => ?_
 refine gy ?_; (iterate 3 refine qy ?_); refine a6 ?_; refine ae ?_
 refine ai (ι := Nat) ⟨[(6, some _), (7, some _)], []⟩ ⟨⟨c9, c9, trivial⟩, trivial⟩ (fun i => ⟨[(3, some (vA (orL (ps.take i)))), (8, some (vI i))], []⟩) (fun i => i ≤ ps.length) (fun i => ps.length - i) (0) (Nat.zero_le _) ⟨⟨⟨_, rfl, (CoR.refl _)⟩, zy, trivial⟩, trivial⟩ ?_
 rintro i hi
 refine sx7 ?_; refine qy ?_; refine a6 ?_; refine a7 ?_; refine a8 _ rfl (fun r0 => ?_) (fun r0 => ?_)
 ·
  have h0 := of_decide_eq_true r0
  try simp only [ty] at h0
  refine aa ?_; refine a7 ?_; refine ae ?_; refine sx7 ?_; (iterate 3 refine qy ?_); refine a6 ?_; refine gy ?_; (iterate 4 refine qy ?_); refine a6 ?_; refine gy ?_; (iterate 2 refine qy ?_)
  refine a6 ?_; refine ⟨i + 1, ?_, ?_, ?_⟩
  · show i + 1 ≤ _; omega
  · first | omega | (dsimp only; omega)
  · exact ⟨⟨⟨_, rfl, (c5 (by rw [bOr, xg (by omega)]; rfl))⟩, zy, c9, c9, trivial⟩, trivial⟩
 ·
  have h0 := of_decide_eq_false r0
  try simp only [ty] at h0
  obtain rfl : i = ps.length := by omega
  refine ak ?_; refine sx7 ?_; (iterate 2 refine qy ?_); refine a6 ?_
  exact hx8 rfl rfl rfl (⟨cci (by rw [List.take_length]), trivial⟩)
theorem ahq : goodFn Tryz.prog 83 := ⟨Tryz.f83, Tryz.func83, by kernel_rfl, by kernel_rfl⟩
theorem ae6 (n : Int) (ps : List AS) : ah Tryz.prog 83 [pI n, pP (asl ps)] (ap [pI (lvE n ps)]) := by
 refine ag (nt := 28) af Tryz.func83 rfl rfl l9 ?_; refine sx7 ?_; refine qy ?_; refine a6 ?_; refine a7 ?_; refine ae ?_; refine sx7 ?_; (iterate 3 refine qy ?_)
 refine aw rfl rfl (fun r0 => ?_) (fun r0 => ?_)
 ·
  have h0 := of_decide_eq_true r0
  try simp only [ty] at h0
  (iterate 2 refine k9 (gtf r0) ?_); refine rq rfl rfl rfl rfl rfl ?_ (hp := r0); refine qy ?_; refine a6 ?_; refine a8 _ rfl (fun _ => ?_) (fun e => by cases e); refine sx7 ?_; refine qy ?_; refine a6 ?_
  exact hx8 rfl rfl rfl (⟨cci (a8m (by omega)).symm, trivial⟩)
 ·
  have h0 := of_decide_eq_false r0
  try simp only [ty] at h0
  (iterate 2 refine qy ?_ (hg := (gff r0))); (iterate 2 refine qy ?_); refine a6 ?_; refine a8 _ rfl (fun r1 => ?_) (fun r1 => ?_)
  ·
   have h1 := r1
   have h1 := be r0 h1
   have h1 := of_decide_eq_true h1
   try simp only [ty] at h1
   refine sx7 ?_; refine qy ?_; refine a6 ?_
   exact hx8 rfl rfl rfl (⟨cci (a8m (by omega)).symm, trivial⟩)
  ·
   have h1 := r1
   have h1 := be r0 h1
   have h1 := of_decide_eq_false h1
   try simp only [ty] at h1
   have hz0 : 0 ≤ n := by omega
   have hz1 : n ≤ 16 := by omega
   refine sx7 ?_; (iterate 4 refine qy ?_); refine a6 ?_; refine a8 _ rfl (fun r2 => ?_) (fun r2 => ?_)
   ·
    have h2 := of_decide_eq_true r2
    try simp only [ty] at h2
    refine sx7 ?_; refine qy ?_; refine a6 ?_
    exact hx8 rfl rfl rfl (⟨cci (aph (by omega) (by omega)).symm, trivial⟩)
   ·
    have h2 := of_decide_eq_false r2
    try simp only [ty] at h2
    refine a7 ?_; refine b5 (E := bm) af aq [0, 1, 2, 3, 4, 5, 6, 7, 8, 9, 10, 11] ?_; (iterate 4 refine qy ?_); refine aw rfl rfl (fun r3 => ?_) (fun r3 => ?_)
    ·
     have h3 := of_decide_eq_true r3
     try simp only [ty] at h3
     (iterate 6 refine k9 (gtf r3) ?_); refine rq rfl rfl rfl rfl rfl ?_ (hp := r3); refine qy ?_; refine a6 ?_; refine ⟨by kernel_rfl, ?_⟩; refine a8 _ rfl (fun _ => ?_) (fun e => by cases e); refine sx7 ?_
     refine qy ?_; refine a6 ?_
     exact hx8 rfl rfl rfl (⟨cci (a8s (by omega) (by omega) (by first | exact .inl (by omega) | exact .inr (fun e => absurd (show asI (orL ps) = IntKind.wrap .u32 (1 * 2 ^ (min n.toNat 32)) - 1 by rw [s6 hz0 hz1, e]) (by assumption)))).symm, trivial⟩)
    ·
     have h3 := of_decide_eq_false r3
     try simp only [ty] at h3
     refine qy ?_ (hg := (gff r3)); refine rc rfl rfl rfl rfl rfl rfl ar9 (awo ps) (CoL.refl _) rfl (gff r3) ?_; (iterate 2 refine qy ?_ (hg := (gff r3)))
     refine rq rfl rfl rfl rfl (gff r3) ?_ (hp := ⟨a2n hz0 hz1, yu hz0 hz1⟩); refine qy ?_ (hg := (gff r3)); (iterate 2 refine qy ?_); refine a6 ?_; refine ⟨by kernel_rfl, ?_⟩
     refine a8 _ rfl (fun r4 => ?_) (fun r4 => ?_)
     ·
      have h4 := r4
      have h4 := be r3 h4
      have h4 := of_decide_eq_false (av h4)
      try simp only [ty] at h4
      refine sx7 ?_; refine qy ?_; refine a6 ?_
      exact hx8 rfl rfl rfl (⟨cci (a8s (by omega) (by omega) (by first | exact .inl (by omega) | exact .inr (fun e => absurd (show asI (orL ps) = IntKind.wrap .u32 (1 * 2 ^ (min n.toNat 32)) - 1 by rw [s6 hz0 hz1, e]) (by assumption)))).symm, trivial⟩)
     ·
      have h4 := r4
      have h4 := be r3 h4
      have h4 := of_decide_eq_true (au h4)
      try simp only [ty] at h4
      refine aa ?_; refine sx7 ?_; refine qy ?_; refine a6 ?_; refine am ?_; refine ⟨.inr rfl, ?_⟩
      exact ⟨_, _, _, _, rfl, (by (repeat' apply And.intro) <;> first | trivial | exact Nat.le_of_ble_eq_true rfl | rfl), rfl, (by (repeat' apply And.intro) <;> first | trivial | exact Nat.le_of_ble_eq_true rfl | rfl), ⟨cci (ap0 (by omega) (by omega) (fun e => by
       rcases e with e | e
       · omega
       · exact e (da.1 ((by assumption : asI (orL ps) = IntKind.wrap .u32 (1 * 2 ^ (min n.toNat 32)) - 1).trans (s6 hz0 hz1))))).symm, trivial⟩⟩
theorem axj : goodFn Tryz.prog 98 := ⟨Tryz.f98, Tryz.func98, by kernel_rfl, by kernel_rfl⟩
theorem at6 (n : Int) (ps : List AS) (p m : List Fd) : ah Tryz.prog 98 [pI n, pP (asl ps), pP (fdl p), pP (fdl m)] (ap [pT (lcR n ps p m).1.1 (lcR n ps p m).1.2, pP (stl (lcR n ps p m).2.1), pT (lcR n ps p m).2.2.1.1 (lcR n ps p m).2.2.1.2, pI (lcR n ps p m).2.2.2]) := by
 refine ag (nt := 58) af Tryz.func98 rfl rfl l9 ?_; refine sx7 ?_; refine m9 0 ?_; refine qy ?_; refine m9 1 ?_; refine qy ?_; refine a6 ?_; refine a7 ?_; refine sx7 ?_; (iterate 2 refine qy ?_)
 refine rc rfl rfl rfl rfl rfl rfl ahq (ae6 n ps) (CoL.refl _) rfl rfl ?_; refine qy ?_; refine a6 ?_; refine sx7 ?_; (iterate 2 refine qy ?_); refine a6 ?_; refine a8 _ rfl (fun r0 => ?_) (fun r0 => ?_)
 ·
  have h0 := r0
  have h0 := of_decide_eq_false (av h0)
  try simp only [ty] at h0
  refine sx7 ?_; (iterate 3 refine qy ?_); refine s9 ?_; refine qy ?_; refine s9 ?_; refine qy ?_; refine a6 ?_; refine am ?_; refine ⟨.inr rfl, ?_⟩
  have he := ays (p := p) (m := m) (by assumption : ¬ lvE n ps = 0)
  exact f9 rfl rfl (by rw [he]; exact ⟨CoC.agg ⟨CoP.refl _, bp, trivial⟩, CoC.one (CoP.sl rfl (.inr rfl) (fun _ => rfl) (fun i j hi _ => absurd hi (Nat.not_lt_zero i))), CoC.agg ⟨CoP.refl _, bp, trivial⟩, CoC.refl _, trivial⟩)
 ·
  have h0 := r0
  have h0 := of_decide_eq_true (au h0)
  try simp only [ty] at h0
  have hv : lvE n ps = 0 := by assumption
  refine aa ?_; refine a7 ?_; refine sx7 ?_; (iterate 3 refine qy ?_); refine rc rfl rfl rfl rfl rfl rfl ajp (aef n p m) (CoL.refl _) rfl rfl ?_; refine qy ?_; refine a6 ?_; refine sx7 ?_
  (iterate 2 refine qy ?_); refine a6 ?_; refine a8 _ rfl (fun r1 => ?_) (fun r1 => ?_)
  ·
   have h1 := r1
   have h1 := of_decide_eq_false (av h1)
   try simp only [ty] at h1
   refine sx7 ?_; (iterate 3 refine qy ?_); refine s9 ?_; refine qy ?_; refine s9 ?_; refine qy ?_; refine a6 ?_; refine am ?_; refine ⟨.inr rfl, ?_⟩
   have he := ay9 hv (by assumption : ¬ ck n p m = 0)
   exact f9 rfl rfl (by rw [he]; exact ⟨CoC.agg ⟨CoP.refl _, bp, trivial⟩, CoC.one (CoP.sl rfl (.inr rfl) (fun _ => rfl) (fun i j hi _ => absurd hi (Nat.not_lt_zero i))), CoC.agg ⟨CoP.refl _, bp, trivial⟩, CoC.refl _, trivial⟩)
  ·
   have h1 := r1
   have h1 := of_decide_eq_true (au h1)
   try simp only [ty] at h1
   have hb : ck n p m = 0 := by assumption
   refine aa ?_; refine sx7 ?_; (iterate 2 refine qy ?_); refine rc rfl rfl rfl rfl rfl rfl aq0 (aro n ps hv) (CoL.refl _) rfl rfl ?_; (iterate 3 refine qy ?_); refine m9 2 ?_; refine s9 ?_; refine qy ?_
   refine a6 ?_; refine a7 ?_; refine sx7 ?_; (iterate 2 refine qy ?_); refine a6 ?_; refine a8 _ rfl (fun e => by cases e) (fun _ => ?_); refine aa ?_; refine sx7 ?_; (iterate 3 refine qy ?_)
   refine rc rfl rfl rfl rfl rfl rfl aul (aq8 n ps p m) (CoL.refl _) rfl rfl ?_; (iterate 4 refine qy ?_); refine m9 3 ?_; refine qy ?_; refine s9 ?_; refine qy ?_; refine a6 ?_; refine a7 ?_
   refine b5 (E := bm) af aq [0, 1, 2, 3, 4, 5, 6, 7] ?_; (iterate 4 refine qy ?_); refine s9 ?_; refine qy ?_; refine s9 ?_; refine qy ?_; refine a6 ?_; refine ⟨by kernel_rfl, ?_⟩; refine am ?_
   refine ⟨.inr rfl, ?_⟩
   have he := ap2 hv hb
   exact f9 rfl rfl (by rw [he]; exact CoL.refl _)
theorem aql : goodFn Tryz.prog 100 := ⟨Tryz.f100, Tryz.func100, by kernel_rfl, by kernel_rfl⟩
theorem asu (n : Int) (h0 : 0 ≤ n) (h1 : n ≤ 16) : ah Tryz.prog 100 [pI n] (ap [pZ (d5 n)]) := by
 refine ag (nt := 18) af Tryz.func100 rfl rfl l9 ?_; refine sx7 ?_; refine qy ?_; refine a6 ?_; refine sx7 ?_; refine qy ?_; refine m9 0 ?_; refine qy ?_; refine a6 ?_; refine a7 ?_; refine sx7 ?_
 (iterate 3 refine qy ?_); refine a6 ?_; refine ae ?_
 refine ai (ι := Nat) ⟨[(3, some _), (8, some _)], []⟩ ⟨⟨c9, c9, trivial⟩, trivial⟩ (fun k => ⟨[(9, some (vI k))], [(0, some (.arr true 1 3 n.toNat (lf zC (stT n 0 (j2 32) k))))]⟩) (fun k => k ≤ n.toNat) (fun k => n.toNat - k) (0) (Nat.zero_le _) ⟨⟨zy, trivial⟩, ⟨⟨_, rfl, (a9x rfl (fun _ => rfl))⟩, trivial⟩⟩ ?_
 rintro k hk
 refine sx7 ?_; refine qy ?_; refine a6 ?_; refine a7 ?_; refine a8 _ rfl (fun r0 => ?_) (fun r0 => ?_)
 ·
  have h0 := of_decide_eq_true r0
  try simp only [ty] at h0
  refine aa ?_; refine a7 ?_; refine ae ?_; refine sx7 ?_; (iterate 2 refine qy ?_); refine a6 ?_; refine gy ?_; (iterate 4 refine qy ?_); refine s9 ?_; refine a6 ?_; refine gy ?_; (iterate 2 refine qy ?_)
  refine a6 ?_; refine ⟨k + 1, ?_, ?_, ?_⟩
  · show k + 1 ≤ _; omega
  · first | omega | (dsimp only; omega)
  · exact ⟨⟨zy, c9, c9, trivial⟩, ⟨⟨_, rfl, (avr (aiw (by omega)) rfl (by omega))⟩, trivial⟩⟩
 ·
  have h0 := of_decide_eq_false r0
  try simp only [ty] at h0
  refine ak ?_; refine a7 ?_; refine bq 3 rfl rfl rfl ?_; refine gy ?_; (iterate 2 refine qy ?_); refine a6 ?_
  exact hx8 rfl rfl rfl (⟨aib h1 (by omega), trivial⟩)
theorem awf : goodFn Tryz.prog 50 := ⟨Tryz.f50, Tryz.func50, by kernel_rfl, by kernel_rfl⟩
theorem azo (n : Int) (ps : List AS) (p m : List Fd) : ah Tryz.prog 50 [pI n, pP (asl ps), pP (fdl p), pP (fdl m)] (ap [pB (lsB n ps p m), pI (lsC n ps p m)]) := by
 refine ag (nt := 33) af Tryz.func50 rfl rfl l9 ?_; refine sx7 ?_; (iterate 2 refine qy ?_); refine a6 ?_; refine sx7 ?_; (iterate 4 refine qy ?_)
 refine rc rfl rfl rfl rfl rfl rfl axj (at6 n ps p m) (CoL.refl _) rfl rfl ?_; (iterate 5 refine qy ?_); refine m9 0 ?_; refine m9 1 ?_; refine s9 ?_; refine qy ?_; refine s9 ?_; refine qy ?_; refine a6 ?_
 refine a7 ?_; refine b5 (E := bm) af aq [0, 1, 2, 3, 4, 5, 6, 7, 8, 9, 10] ?_; (iterate 3 refine qy ?_); refine aw rfl rfl (fun r0 => ?_) (fun r0 => ?_)
 ·
  have h0 := of_decide_eq_true r0
  try simp only [ty] at h0
  have hz := b08 (n := n) (ps := ps) (p := p) (m := m) rfl h0
  (iterate 2 refine qy ?_ (hg := (gtt r0))); refine rc rfl rfl rfl rfl rfl rfl aql (asu n hz.1 (by omega)) (CoL.refl _) rfl (gtt r0) ?_
  refine rc rfl rfl rfl rfl rfl rfl ah2 (aos (lcR n ps p m).2.2.1.1 (lcR n ps p m).2.2.1.2 (d5 n)) (CoL.refl _) rfl (gtt r0) ?_; (iterate 4 refine qy ?_); refine a6 ?_; refine ⟨by kernel_rfl, ?_⟩
  exact hx8 rfl rfl rfl (⟨ccb (by first | exact avj | exact alw (n := n) (ps := ps) (p := p) (m := m) (by assumption) | exact (anf (n := n) (ps := ps) (p := p) (m := m) (by assumption)).symm), cci sb, trivial⟩)
 ·
  have h0 := of_decide_eq_false r0
  try simp only [ty] at h0
  (iterate 4 refine k9 (gft r0) ?_); refine rq rfl rfl rfl rfl rfl ?_ (hp := r0); (iterate 3 refine qy ?_); refine a6 ?_; refine ⟨by kernel_rfl, ?_⟩
  exact hx8 rfl rfl rfl (⟨ccb (by first | exact avj | exact alw (n := n) (ps := ps) (p := p) (m := m) (by assumption) | exact (anf (n := n) (ps := ps) (p := p) (m := m) (by assumption)).symm), cci sb, trivial⟩)
theorem au2 : goodFn Tryz.prog 143 := ⟨Tryz.f143, Tryz.func143, by kernel_rfl, by kernel_rfl⟩
theorem ala (n : Int) (ps : List AS) : ah Tryz.prog 143 [pI n, pP (asl ps)] (ap [pI (lvE n ps)]) := by
 refine ag (nt := 37) af Tryz.func143 rfl rfl l9 ?_; refine sx7 ?_; refine qy ?_; refine a6 ?_; refine a7 ?_; refine sx7 ?_; (iterate 3 refine qy ?_); refine aw rfl rfl (fun r0 => ?_) (fun r0 => ?_)
 ·
  have h0 := of_decide_eq_true r0
  try simp only [ty] at h0
  (iterate 2 refine k9 (gtf r0) ?_); refine rq rfl rfl rfl rfl rfl ?_ (hp := r0); refine a6 ?_; refine a8 _ rfl (fun _ => ?_) (fun e => by cases e); refine sx7 ?_; refine qy ?_; refine a6 ?_
  exact hx8 rfl rfl rfl (⟨cci (a8m (by omega)).symm, trivial⟩)
 ·
  have h0 := of_decide_eq_false r0
  try simp only [ty] at h0
  (iterate 2 refine qy ?_ (hg := (gff r0))); refine qy ?_; refine a6 ?_; refine a8 _ rfl (fun r1 => ?_) (fun r1 => ?_)
  ·
   have h1 := r1
   have h1 := be r0 h1
   have h1 := of_decide_eq_true h1
   try simp only [ty] at h1
   refine sx7 ?_; refine qy ?_; refine a6 ?_
   exact hx8 rfl rfl rfl (⟨cci (a8m (by omega)).symm, trivial⟩)
  ·
   have h1 := r1
   have h1 := be r0 h1
   have h1 := of_decide_eq_false h1
   try simp only [ty] at h1
   refine aa ?_; refine a7 ?_; refine sx7 ?_; (iterate 3 refine qy ?_); refine a6 ?_; refine a8 _ rfl (fun r2 => ?_) (fun r2 => ?_)
   ·
    have h2 := of_decide_eq_true r2
    try simp only [ty] at h2
    refine sx7 ?_; refine qy ?_; refine a6 ?_
    exact hx8 rfl rfl rfl (⟨cci (aph (by omega) (by omega)).symm, trivial⟩)
   ·
    have h2 := of_decide_eq_false r2
    try simp only [ty] at h2
    refine aa ?_; refine sx7 ?_; refine qy ?_; refine a6 ?_; refine a7 ?_; refine sx7 ?_; refine qy ?_; refine a6 ?_; refine ae ?_
    refine ai (ι := Nat) ⟨[(0, some _), (1, some _)], []⟩ ⟨⟨c9, c9, trivial⟩, trivial⟩ (fun i => ⟨[(5, some (vA (orL (ps.take i)))), (6, some (vI i))], []⟩) (fun i => i ≤ ps.length) (fun i => ps.length - i) (0) (Nat.zero_le _) ⟨⟨⟨_, rfl, (CoR.refl _)⟩, zy, trivial⟩, trivial⟩ ?_
    rintro i hi
    refine a7 ?_; refine sx7 ?_; (iterate 4 refine qy ?_); refine a6 ?_; refine a8 _ rfl (fun r3 => ?_) (fun r3 => ?_)
    ·
     have h3 := of_decide_eq_true r3
     try simp only [ty] at h3
     refine aa ?_; refine a7 ?_; refine ae ?_; refine gy ?_; (iterate 7 refine qy ?_); refine a6 ?_; refine gy ?_; (iterate 3 refine qy ?_); refine a6 ?_; refine ⟨i + 1, ?_, ?_, ?_⟩
     · show i + 1 ≤ _; omega
     · first | omega | (dsimp only; omega)
     · exact ⟨⟨⟨_, rfl, (c5 (by rw [bOr, xg (by omega)]; rfl))⟩, zy, c9, c9, trivial⟩, trivial⟩
    ·
     have h3 := of_decide_eq_false r3
     try simp only [ty] at h3
     obtain rfl : i = ps.length := by omega
     rw [show ps.take ps.length = ps from List.take_length]
     refine ak ?_; refine a7 ?_; refine sx7 ?_; (iterate 4 refine qy ?_); refine aw rfl rfl (fun r4 => ?_) (fun r4 => ?_)
     ·
      have h4 := of_decide_eq_true r4
      try simp only [ty] at h4
      (iterate 4 refine k9 (gtf r4) ?_); refine rq rfl rfl rfl rfl rfl ?_ (hp := r4); refine a6 ?_; refine a8 _ rfl (fun _ => ?_) (fun e => by cases e); refine sx7 ?_; refine qy ?_; refine a6 ?_
      exact hx8 rfl rfl rfl (⟨cci (a8s (by omega) (by omega) (by first | exact .inl (by omega) | exact .inr (fun e => absurd (show asI (orL ps) = asI (b8 n) by rw [e]) (by assumption)))).symm, trivial⟩)
     ·
      have h4 := of_decide_eq_false r4
      try simp only [ty] at h4
      (iterate 2 refine qy ?_ (hg := (gff r4))); refine rc rfl rfl rfl rfl rfl rfl a36 (a4w n) (CoL.refl _) rfl (gff r4) ?_; refine qy ?_ (hg := (gff r4)); refine qy ?_; refine a6 ?_
      refine a8 _ rfl (fun r5 => ?_) (fun r5 => ?_)
      ·
       have h5 := r5
       have h5 := be r4 h5
       have h5 := of_decide_eq_false (av h5)
       try simp only [ty] at h5
       refine sx7 ?_; refine qy ?_; refine a6 ?_
       exact hx8 rfl rfl rfl (⟨cci (a8s (by omega) (by omega) (by first | exact .inl (by omega) | exact .inr (fun e => absurd (show asI (orL ps) = asI (b8 n) by rw [e]) (by assumption)))).symm, trivial⟩)
      ·
       have h5 := r5
       have h5 := be r4 h5
       have h5 := of_decide_eq_true (au h5)
       try simp only [ty] at h5
       refine aa ?_; refine sx7 ?_; refine qy ?_; refine a6 ?_; refine am ?_; refine ⟨.inr rfl, ?_⟩
       exact ⟨_, _, _, _, rfl, (by (repeat' apply And.intro) <;> first | trivial | exact Nat.le_of_ble_eq_true rfl | rfl), rfl, (by (repeat' apply And.intro) <;> first | trivial | exact Nat.le_of_ble_eq_true rfl | rfl), ⟨cci (ap0 (by omega) (by omega) (fun e => by
        rcases e with e | e
        · omega
        · exact e (da.1 (by assumption)))).symm, trivial⟩⟩
theorem ax0 : goodFn Tryz.prog 95 := ⟨Tryz.f95, Tryz.func95, by kernel_rfl, by kernel_rfl⟩
theorem aqt (n : Int) (ps : List AS) (p m : List Fd) : ah Tryz.prog 95 [pI n, pP (asl ps), pP (fdl p), pP (fdl m)] (ap [pP (stl (rcR n ps p m).1), pP (psl 2 tbC (rcR n ps p m).2.1), pI (rcR n ps p m).2.2]) := by
 refine ag (nt := 77) af Tryz.func95 rfl rfl l9 ?_; refine sx7 ?_; (iterate 3 refine qy ?_); refine a6 ?_; refine a7 ?_; refine sx7 ?_; (iterate 2 refine qy ?_)
 refine rc rfl rfl rfl rfl rfl rfl au2 (ala n ps) (CoL.refl _) rfl rfl ?_; refine qy ?_; refine a6 ?_; refine sx7 ?_; (iterate 2 refine qy ?_); refine a6 ?_; refine a8 _ rfl (fun r0 => ?_) (fun r0 => ?_)
 ·
  have h0 := r0
  have h0 := of_decide_eq_false (av h0)
  try simp only [ty] at h0
  refine sx7 ?_; (iterate 4 refine qy ?_); refine a6 ?_; refine am ?_; refine ⟨.inr rfl, ?_⟩
  have he := ag1 (n := n) (ps := ps) (p := p) (m := m) (apa (by assumption)).1 (by assumption)
  exact f9 rfl rfl (by rw [he]; exact ⟨CoC.one (CoP.sl rfl (.inr rfl) (fun _ => rfl) (fun i j hi _ => absurd hi (Nat.not_lt_zero i))), CoC.one (CoP.sl rfl (.inr rfl) (fun _ => rfl) (fun i j hi _ => absurd hi (Nat.not_lt_zero i))), CoC.refl _, trivial⟩)
 ·
  have h0 := r0
  have h0 := of_decide_eq_true (au h0)
  try simp only [ty] at h0
  have hv : lvE n ps = 0 := by assumption
  refine aa ?_; refine a7 ?_; refine sx7 ?_; (iterate 3 refine qy ?_); refine rc rfl rfl rfl rfl rfl rfl a04 (vv n p m) (CoL.refl _) rfl rfl ?_; refine qy ?_; refine a6 ?_; refine sx7 ?_
  (iterate 2 refine qy ?_); refine a6 ?_; refine a8 _ rfl (fun r1 => ?_) (fun r1 => ?_)
  ·
   have h1 := r1
   have h1 := of_decide_eq_false (av h1)
   try simp only [ty] at h1
   refine sx7 ?_; (iterate 4 refine qy ?_); refine a6 ?_; refine am ?_; refine ⟨.inr rfl, ?_⟩
   have he := ag1 (n := n) (ps := ps) (p := p) (m := m) (ay5 hv (by assumption)).1 (by assumption)
   exact f9 rfl rfl (by rw [he]; exact ⟨CoC.one (CoP.sl rfl (.inr rfl) (fun _ => rfl) (fun i j hi _ => absurd hi (Nat.not_lt_zero i))), CoC.one (CoP.sl rfl (.inr rfl) (fun _ => rfl) (fun i j hi _ => absurd hi (Nat.not_lt_zero i))), CoC.refl _, trivial⟩)
  ·
   have h1 := r1
   have h1 := of_decide_eq_true (au h1)
   try simp only [ty] at h1
   have hb : ck n p m = 0 := by assumption
   refine aa ?_; refine sx7 ?_; (iterate 2 refine qy ?_); refine rc rfl rfl rfl rfl rfl rfl ash (ana n ps hv) (CoL.refl _) rfl rfl ?_; (iterate 3 refine qy ?_); refine m9 0 ?_; refine s9 ?_; refine qy ?_
   refine a6 ?_; refine a7 ?_; refine sx7 ?_; (iterate 2 refine qy ?_); refine a6 ?_; refine a8 _ rfl (fun e => by cases e) (fun _ => ?_); refine aa ?_; refine sx7 ?_; (iterate 3 refine qy ?_)
   refine rc rfl rfl rfl rfl rfl rfl aqu (aom n ps p m) (CoL.refl _) rfl rfl ?_; (iterate 4 refine qy ?_); refine m9 1 ?_; refine qy ?_; refine s9 ?_; refine qy ?_; refine a6 ?_; refine a7 ?_; refine sx7 ?_
   (iterate 2 refine qy ?_); refine a6 ?_; refine a8 _ rfl (fun r2 => ?_) (fun r2 => ?_)
   ·
    have h2 := r2
    have h2 := of_decide_eq_false (av h2)
    try simp only [ty] at h2
    refine sx7 ?_; (iterate 4 refine qy ?_); refine a6 ?_; refine am ?_; refine ⟨.inr rfl, ?_⟩
    have he := ag1 (n := n) (ps := ps) (p := p) (m := m) (agd hv hb) (by assumption)
    exact f9 rfl rfl (by rw [he]; exact ⟨CoC.one (CoP.sl rfl (.inr rfl) (fun _ => rfl) (fun i j hi _ => absurd hi (Nat.not_lt_zero i))), CoC.one (CoP.sl rfl (.inr rfl) (fun _ => rfl) (fun i j hi _ => absurd hi (Nat.not_lt_zero i))), CoC.refl _, trivial⟩)
   ·
    have h2 := r2
    have h2 := of_decide_eq_true (au h2)
    try simp only [ty] at h2
    have hc : (lsT n ps p m).2.2 = 0 := by assumption
    have htr := aws hv hb hc
    have hfew : (lsT n ps p m).1.length ≤ 1300000 := adg (p := p) (m := m) hv hb
    have hls : lsC n ps p m = 0 := (agd hv hb).trans hc
    refine aa ?_; refine sx7 ?_; refine qy ?_; refine m9 2 ?_; refine qy ?_; refine a6 ?_; refine a7 ?_; refine sx7 ?_; refine qy ?_; refine a6 ?_; refine ae ?_
    refine ai (ι := Nat) ⟨[(2, some _), (3, some _), (13, some _), (15, some _)], []⟩ ⟨⟨c9, c9, c9, c9, trivial⟩, trivial⟩ (fun i => ⟨[(17, some (.v (.one (.ref 2 ((j6 n p m (ay (bi n ps)) (lsT n ps p m).1).take (i + 1)).length)))), (18, some (vI i))], [(0, some (.box [.p (.raw (.int .i64 n)), .p (rl ((trL n p m (ay (bi n ps)) (lsT n ps p m).1).getD i default))])), (2, some (.arr true 2 120 ((j6 n p m (ay (bi n ps)) (lsT n ps p m).1).take (i + 1)).length (lf tbC ((j6 n p m (ay (bi n ps)) (lsT n ps p m).1).take (i + 1)))))]⟩) (fun i => i ≤ (lsT n ps p m).1.length) (fun i => (lsT n ps p m).1.length - i) (0) (Nat.zero_le _) ⟨⟨⟨_, rfl, (sq (by rw [ab5]; rfl))⟩, zy, trivial⟩, ⟨⟨_, rfl, (by rw [arz]; exact CoO.refl _)⟩, ⟨_, rfl, (asn ab5 rfl (CoP.refl _) (CoP.refl _))⟩, trivial⟩⟩ ?_
    rintro i hi
    have hlen : ((j6 n p m (ay (bi n ps)) (lsT n ps p m).1).take (i + 1)).length ≤ i + 1 := by rw [List.length_take]; omega
    refine a7 ?_; refine sx7 ?_; (iterate 4 refine qy ?_); refine a6 ?_; refine a8 _ rfl (fun r3 => ?_) (fun r3 => ?_)
    ·
     have h3 := of_decide_eq_true r3
     try simp only [ty] at h3
     obtain ⟨hx1, hx2, hx3⟩ := az7 (by omega) (apb htr (i := i) (by omega))
     refine aa ?_; refine a7 ?_; refine ae ?_; refine a7 ?_; refine b5 (E := bm) af aq [0, 1, 2, 3, 4, 5, 6, 7, 8, 9, 10, 11] ?_; (iterate 7 refine qy ?_)
     refine rc rfl rfl rfl rfl rfl rfl acx (aic n ((trL n p m (ay (bi n ps)) (lsT n ps p m).1).getD i default) p m ((lsT n ps p m).1.getD i default) hx1 hb hx2 hx3) (CoL.refl _) rfl rfl ?_
     (iterate 3 refine qy ?_); refine s9 ?_; refine a6 ?_; refine ⟨by kernel_rfl, ?_⟩; refine gy ?_; (iterate 2 refine qy ?_); refine m9 3 ?_; refine ra 4 true rfl rfl rfl rfl rfl rfl ?_; refine qy ?_; refine a6 ?_
     refine gy ?_; (iterate 3 refine qy ?_); refine a6 ?_; refine ⟨i + 1, ?_, ?_, ?_⟩
     · show i + 1 ≤ _; omega
     · first | omega | (dsimp only; omega)
     · exact ⟨⟨⟨_, rfl, (df (a83 (by omega)))⟩, zy, c9, c9, c9, c9, trivial⟩, ⟨⟨_, rfl, (by rw [a6j (by omega)]; exact CoO.refl _)⟩, ⟨_, rfl, (jb (a83 (by omega)) (CoP.refl _) (CoP.refl _))⟩, trivial⟩⟩
    ·
     have h3 := of_decide_eq_false r3
     try simp only [ty] at h3
     obtain rfl : i = (lsT n ps p m).1.length := by omega
     refine ak ?_; refine a7 ?_; refine bq 17 rfl rfl rfl ?_; refine gy ?_; (iterate 5 refine qy ?_); refine a6 ?_; refine am ?_; refine ⟨.inr rfl, ?_⟩
     have he := a8n hls
     exact f9 rfl rfl (by rw [he]; exact ⟨CoC.refl _, (by rw [List.take_of_length_le (by rw [a2m]; omega)]; exact CoC.refl _), CoC.refl _, trivial⟩)
theorem ax3 : goodFn Tryz.prog 49 := ⟨Tryz.f49, Tryz.func49, by kernel_rfl, by kernel_rfl⟩
theorem asj (n : Int) (ps : List AS) (p m : List Fd) : ah Tryz.prog 49 [pI n, pP (asl ps), pP (fdl p), pP (fdl m)] (ap [pP (stl (prS n ps p m)), pI (prC n ps p m)]) := by
 refine ag (nt := 42) af Tryz.func49 rfl rfl l9 ?_; refine sx7 ?_; (iterate 2 refine qy ?_); refine a6 ?_; refine sx7 ?_; (iterate 4 refine qy ?_)
 refine rc rfl rfl rfl rfl rfl rfl ax0 (aqt n ps p m) (CoL.refl _) rfl rfl ?_; (iterate 7 refine qy ?_); refine a6 ?_; refine a7 ?_; refine sx7 ?_; (iterate 2 refine qy ?_); refine a6 ?_
 refine a8 _ rfl (fun r0 => ?_) (fun r0 => ?_)
 ·
  have h0 := r0
  have h0 := of_decide_eq_false (av h0)
  try simp only [ty] at h0
  refine sx7 ?_; (iterate 3 refine qy ?_); refine a6 ?_; refine am ?_; refine ⟨.inr rfl, ?_⟩
  have hn : ¬ (rcR n ps p m).2.2 = 0 := by assumption
  have e1 : prS n ps p m = [] := if_neg hn
  have e2 : prC n ps p m = (rcR n ps p m).2.2 := if_neg hn
  exact f9 rfl rfl (by rw [e1, e2]; exact ⟨CoC.one (CoP.sl rfl (.inr rfl) (fun _ => rfl) (fun i j hi _ => absurd hi (Nat.not_lt_zero i))), CoC.refl _, trivial⟩)
 ·
  have h0 := r0
  have h0 := of_decide_eq_true (au h0)
  try simp only [ty] at h0
  have hc : (rcR n ps p m).2.2 = 0 := by assumption
  obtain ⟨hz0, hz1, hfew0⟩ := b0b hc
  have hfew : (rcR n ps p m).1.length ≤ 1300000 := hfew0
  have hln := aus hc
  refine aa ?_; refine a7 ?_; refine sx7 ?_; refine qy ?_; refine a6 ?_; refine ae ?_
  refine ai (ι := Nat) ⟨[(0, some _), (10, some _), (11, some _)], []⟩ ⟨⟨c9, c9, c9, trivial⟩, trivial⟩ (fun i => ⟨[(13, some (vI i))], []⟩) (fun i => i ≤ (rcR n ps p m).2.1.length ∧ (∀ j, j < i → a6h n ((rcR n ps p m).2.1.getD j default).2 = false)) (fun i => (rcR n ps p m).2.1.length - i) (0) (⟨Nat.zero_le _, fun j hj => absurd hj (Nat.not_lt_zero j)⟩) ⟨⟨zy, trivial⟩, trivial⟩ ?_
  rintro i ⟨hi, hI⟩
  refine a7 ?_; refine sx7 ?_; (iterate 4 refine qy ?_); refine a6 ?_; refine a8 _ rfl (fun r1 => ?_) (fun r1 => ?_)
  ·
   have h1 := of_decide_eq_true r1
   try simp only [ty] at h1
   refine aa ?_; refine a7 ?_; refine ae ?_; refine a7 ?_; refine b5 (E := bm) af aq [0, 1, 2, 3, 4, 5, 6] ?_; (iterate 5 refine qy ?_)
   refine rc rfl rfl rfl rfl rfl rfl awz (av0 n hz1) (CoL.refl _) rfl rfl ?_
   refine rc rfl rfl rfl rfl rfl rfl ab7 (a9r ((rcR n ps p m).2.1.getD i default).1 ((rcR n ps p m).2.1.getD i default).2 (d5 n)) (CoL.refl _) rfl rfl ?_; refine a6 ?_; refine ⟨by kernel_rfl, ?_⟩
   refine a8 _ rfl (fun r2 => ?_) (fun r2 => ?_)
   ·
    have h2 := r2
    have hx : prX n ps p m = (i : Int) := w4 (p := (fun a : Int × List Rw => a6h n a.2)) (i := i) (by omega) hI (by assumption)
    refine sx7 ?_; (iterate 5 refine qy ?_); refine a6 ?_; refine am ?_; refine ⟨.inr rfl, ?_⟩
    have e1 : prS n ps p m = (rcR n ps p m).1.take i := by
     unfold prS
     rw [if_pos hc, if_neg (by omega), hx]
     rfl
    have e2 : prC n ps p m = 0 := by
     unfold prC
     rw [if_pos hc, if_neg (by omega)]
    exact f9 rfl rfl (by rw [e1, e2]; exact ⟨CoC.one (anl (by rw [List.length_take]; dsimp only [go, bw]; omega) (fun a j => by first | rfl | (simp; rfl))), CoC.refl _, trivial⟩)
   ·
    have h2 := r2
    refine aa ?_; refine gy ?_; (iterate 3 refine qy ?_); refine a6 ?_; refine ⟨i + 1, ?_, ?_, ?_⟩
    · refine ⟨by omega, fun j hj => ?_⟩
      by_cases e : j = i
      · rw [e]; assumption
      · exact hI j (by omega)
    · first | omega | (dsimp only; omega)
    · exact ⟨⟨zy, c9, c9, c9, trivial⟩, trivial⟩
  ·
   have h1 := of_decide_eq_false r1
   try simp only [ty] at h1
   have hx : prX n ps p m < 0 := by
    have : prX n ps p m = -1 := vz (p := (fun a : Int × List Rw => a6h n a.2)) fun j hj => hI j (by omega)
    omega
   refine ak ?_; refine sx7 ?_; (iterate 2 refine qy ?_); refine a6 ?_; refine am ?_; refine ⟨.inr rfl, ?_⟩
   have e1 : prS n ps p m = [] := by
    unfold prS
    rw [if_pos hc, if_pos hx]
   have e2 : prC n ps p m = 11 := by
    unfold prC
    rw [if_pos hc, if_pos hx]
   exact f9 rfl rfl (by rw [e1, e2]; exact ⟨CoC.one (CoP.sl rfl (.inr rfl) (fun _ => rfl) (fun i j hi _ => absurd hi (Nat.not_lt_zero i))), CoC.refl _, trivial⟩)
theorem auv : goodFn Tryz.prog 18 := ⟨Tryz.f18, Tryz.func18, by kernel_rfl, by kernel_rfl⟩
theorem b02 (n : Int) (ps : List AS) (p m : List Fd) : ah Tryz.prog 18 [pI n, pP (asl ps), pP (fdl p), pP (fdl m)] (ap [pB (lsB n ps p m), pI (lsC n ps p m)]) := by
 refine ag (nt := 25) af Tryz.func18 rfl rfl l9 ?_; refine sx7 ?_; (iterate 2 refine qy ?_); refine a6 ?_; refine sx7 ?_; (iterate 4 refine qy ?_)
 refine rc rfl rfl rfl rfl rfl rfl ax3 (asj n ps p m) (CoL.refl _) rfl rfl ?_; (iterate 5 refine qy ?_); refine a6 ?_; refine a7 ?_; refine sx7 ?_; (iterate 2 refine qy ?_); refine a6 ?_
 refine a8 _ rfl (fun r0 => ?_) (fun r0 => ?_)
 ·
  have h0 := of_decide_eq_true r0
  try simp only [ty] at h0
  refine sx7 ?_; (iterate 2 refine qy ?_); refine a6 ?_; refine am ?_; refine ⟨.inr rfl, ?_⟩
  obtain ⟨e1, e2⟩ := ayh (n := n) (ps := ps) (p := p) (m := m) (by assumption)
  exact f9 rfl rfl (⟨ccb e1.symm, cci e2.symm, trivial⟩)
 ·
  have h0 := of_decide_eq_false r0
  try simp only [ty] at h0
  refine aa ?_; refine sx7 ?_; (iterate 5 refine qy ?_); refine a6 ?_; refine am ?_; refine ⟨.inr rfl, ?_⟩
  obtain ⟨e1, e2⟩ := aza (n := n) (ps := ps) (p := p) (m := m) (by assumption)
  exact f9 rfl rfl (⟨ccb e1, cci e2, trivial⟩)
end Go.Hx
end
section
namespace Go.Hx
inductive Lf (l : List Fd) : AS → AS → Prop
 | leaf {s : AS} : qg l s = false → Lf l s s
 | left {s q : AS} : qg l s = true → Lf l (spA l s) q → Lf l s q
 | right {s q : AS} : qg l s = true → Lf l (spB l s) q → Lf l s q
def av5 (l : List Fd) : Nat → AS → List AS
 | 0, s => [s]
 | k + 1, s => if qg l s = true then av5 l k (spA l s) ++ av5 l k (spB l s) else [s]
theorem a63 {f : AS → Bool} {ps : List AS} {i : Nat} (h : i < ps.length) : (ps.take (i + 1)).all f = ((ps.take i).all f && f (ps.getD i default)) := by
 rw [br h, List.all_append]
 simp
theorem apc {s : Nat} {f : Nat → Nat → PV} : CoC (.one (.sl 0 s true f)) (pP (fdl [])) := CoC.one (CoP.sl rfl (.inr rfl) (fun h => by cases h) fun i j hi _ => absurd hi (Nat.not_lt_zero i))
end Go.Hx
end
section
namespace Go.Hx
open Go.Proofs
def u8A (b : BitVec 8) : AS := b.setWidth 32
abbrev u8C : BitVec 8 → Nat → PV := fun b _ => .raw (.int .u8 (b.toNat : Int))
end Go.Hx
end
section
namespace Go.Hx
open Go.Proofs Go.Proofs.YtidophngianjiaaGreatDoor
open Go.RowKit Go.ChangeShapes Go.WideShapes Go.ChangeAt
theorem azm : RdB Tryz.prog 27 1 (ami 2 Fd.c) fun b l => l.length ≤ b :=
 (a80 (B := fun _ _ => True) (fun _ _ _ _ _ => trivial) Tryz.underlying27 (by kernel_rfl) (by omega) azw.toB).co id (fun b a h => h.1) fun a j hj => CoP.refl _
theorem b00 : RdB Tryz.prog 32 1 (ami 1 sC) fun b l => l.length ≤ b :=
 (a80 (B := fun _ _ => True) (fun _ _ _ _ _ => trivial) Tryz.underlying32 (by kernel_rfl) (by omega) aoi.toB).co id (fun b a h => h.1) fun a j hj => CoP.refl _
theorem ayv : Tryz.prog.readableRec 27 = true ∧ 27 < Tryz.prog.types.size := ⟨by kernel_rfl, of_decide_eq_true (by kernel_rfl)⟩
theorem az8 : Tryz.prog.readableRec 32 = true ∧ 32 < Tryz.prog.types.size := ⟨by kernel_rfl, of_decide_eq_true (by kernel_rfl)⟩
end Go.Hx
end
section
namespace Go.Hx
def ip (l : List Fd) (p : AS) (k : Nat) : List Fd := (((List.range k).map (BitVec.ofNat 32)).filter fun s => decide (sub s p)).map fun s => ⟨s, clo l s &&& p⟩
def ic (l : List Fd) (ps : List AS) (i : Nat) : List Fd := (ps.take i).flatMap fun p => ip l p (p.toNat + 1)
theorem avv {l : List Fd} {p : AS} {k : Nat} (h : sub (BitVec.ofNat 32 k) p) : ip l p (k + 1) = ip l p k ++ [⟨BitVec.ofNat 32 k, clo l (BitVec.ofNat 32 k) &&& p⟩] := by
 unfold ip
 rw [List.range_succ, List.map_append, List.filter_append, List.map_append]
 simp [h]
theorem ave {l : List Fd} {p : AS} {k : Nat} (h : ¬ sub (BitVec.ofNat 32 k) p) : ip l p (k + 1) = ip l p k := by
 unfold ip
 rw [List.range_succ, List.map_append, List.filter_append, List.map_append]
 simp [h]
theorem abh (l : List Fd) (p : AS) (k : Nat) : (ip l p k).length ≤ k := by
 unfold ip
 rw [List.length_map]
 exact Nat.le_trans (List.length_filter_le _ _) (by simp)
theorem zh {l : List Fd} {ps : List AS} {i : Nat} (h : i < ps.length) : ic l ps (i + 1) = ic l ps i ++ ip l (ps.getD i default) ((ps.getD i default).toNat + 1) := by
 unfold ic
 rw [br h, List.flatMap_append]
 simp
theorem aau {l : List Fd} {ps : List AS} (hb : ∀ q, q ∈ ps → q.toNat < 65536) : ∀ i, i ≤ ps.length → (ic l ps i).length ≤ i * 65536
 | 0, _ => by simp [ic]
 | i + 1, h => by
  have h1 := aau (l := l) hb i (by omega)
  have h2 := abh l (ps.getD i default) ((ps.getD i default).toNat + 1)
  have h3 := hb _ (d6 (l := ps) (i := i) (by omega))
  rw [zh (by omega), List.length_append]
  omega
theorem aap {l : List Fd} {p : AS} {f : Fd} : f ∈ ip l p (p.toNat + 1) ↔ sub f.lhs p ∧ f.rhs = clo l f.lhs &&& p := by
 unfold ip
 constructor
 · intro h
   obtain ⟨s, hs, rfl⟩ := List.mem_map.1 h
   exact ⟨of_decide_eq_true (List.mem_filter.1 hs).2, rfl⟩
 · rintro ⟨h1, h2⟩
   refine List.mem_map.2 ⟨f.lhs, List.mem_filter.2 ⟨List.mem_map.2 ⟨f.lhs.toNat, List.mem_range.2 (by have := a9v h1; omega), ?_⟩, decide_eq_true h1⟩, ?_⟩
   · exact BitVec.eq_of_toNat_eq (by rw [BitVec.toNat_ofNat, Nat.mod_eq_of_lt f.lhs.isLt])
   · rw [← h2]
theorem a9k {l : List Fd} {ps : List AS} {f : Fd} : f ∈ ic l ps ps.length ↔ ∃ p, p ∈ ps ∧ sub f.lhs p ∧ f.rhs = clo l f.lhs &&& p := by
 unfold ic
 rw [List.take_length, List.mem_flatMap]
 constructor
 · rintro ⟨p, hp, h⟩
   exact ⟨p, hp, aap.1 h⟩
 · rintro ⟨p, hp, h⟩
   exact ⟨p, hp, aap.2 h⟩
theorem a9t {l : List Fd} {ps : List AS} {t : AS} : l6 (ic l ps ps.length) t ↔ a4x l ps t := by
 constructor
 · intro h p hp
   have := h ⟨t &&& p, clo l (t &&& p) &&& p⟩ (a9k.2 ⟨p, hp, tk, rfl⟩) j1
   exact this
 · intro h f hf hs
   obtain ⟨p, hp, h1, h2⟩ := a9k.1 hf
   rw [h2]
   refine dz (nr ?_ tk) (h p hp)
   exact dz j1 (a9a (nr hs h1))
theorem auo {l : List Fd} {ps : List AS} {z : AS} : clo (ic l ps ps.length) z = se l ps z :=
 gh (p8 (a9t.2 (amw l ps z)) ath) (atc (a9t.1 n9) xw)
theorem aeq {l : List Fd} {ps : List AS} {f : Fd} : imp (ic l ps ps.length) f = n7 l ps f := by
 unfold imp n7
 rw [auo]
def a64 (a b : List Fd) : Bool := b.any fun f => !imp a f
theorem azd {a b : List Fd} {i : Nat} (hi : i < b.length) (h : imp a (b.getD i default) = false) : a64 a b = true := List.any_eq_true.2 ⟨_, d6 hi, by rw [h]; rfl⟩
theorem axx {a b : List Fd} (h : ∀ j, j < b.length → imp a (b.getD j default) = true) : a64 a b = false := by
 unfold a64
 rw [List.any_eq_false]
 intro f hf
 obtain ⟨j, hj, rfl⟩ := nu hf
 rw [h j hj]
 decide
theorem au5 {l : List Fd} {ps : List AS} : (!a64 (ic l ps ps.length) l) = fv l ps := by
 unfold a64
 rw [← List.all_eq_not_any_not, Bool.eq_iff_iff, List.all_eq_true, amh]
 exact ⟨fun h f hf => by have := h f hf; rwa [aeq] at this, fun h f hf => by rw [aeq]; exact h f hf⟩
def a1t (n : Int) (l : List Fd) (ps : List AS) : Int := if az n l = 0 then lsC n ps l [] else az n l
def pj (n : Int) (l : List Fd) (ps : List AS) : Bool := decide (az n l = 0) && (lsB n ps l [] && fv l ps && ps.all (db l))
section
variable {n : Int} {l : List Fd} {ps : List AS}
theorem aot (h : ¬ az n l = 0) : a1t n l ps = az n l ∧ pj n l ps = false := ⟨if_neg h, by unfold pj; rw [decide_eq_false h]; rfl⟩
theorem az4 (h : az n l = 0) (h2 : ¬ lvE n ps = 0) : a1t n l ps = lvE n ps ∧ pj n l ps = false := by
 obtain ⟨e1, e2⟩ := apa (p := l) (m := []) h2
 exact ⟨(if_pos h).trans e1, by unfold pj; rw [e2]; simp⟩
theorem apg (h : az n l = 0) (h2 : ¬ lsC n ps l [] = 0) : a1t n l ps = lsC n ps l [] ∧ pj n l ps = false := by
 refine ⟨if_pos h, ?_⟩
 have : lsB n ps l [] = false := by unfold lsB; rw [decide_eq_false h2]; rfl
 unfold pj
 rw [this]
 simp
theorem api (h : az n l = 0) (h2 : lsC n ps l [] = 0) : a1t n l ps = 0 ∧ pj n l ps = (lsB n ps l [] && fv l ps && ps.all (db l)) := by
 refine ⟨(if_pos h).trans h2, ?_⟩
 unfold pj
 rw [decide_eq_true h, Bool.true_and]
theorem arn (h0 : 0 ≤ n) (h8 : n ≤ 8) {q : AS} (hq : sub q (b8 n)) : q.toNat < 65536 := by
 have h1 := a9v hq
 have h2 : ∀ k, k ≤ 8 → (j2 k).toNat < 65536 := by decide +kernel
 have h3 : (b8 n).toNat < 65536 := h2 (min n.toNat 32) (by omega)
 omega
theorem apo (h : lvE n ps = 0) {q : AS} (hq : q ∈ ps) : q.toNat < 65536 := arn (ku h).1 (ku h).2.1 (abf h hq)
theorem ax5 {f : AS → Bool} {i : Nat} (hi : i < ps.length) (h : f (ps.getD i default) = false) : ps.all f = false := by
 rw [Bool.eq_false_iff]
 intro e
 have := List.all_eq_true.1 e _ (d6 hi)
 rw [h] at this
 cases this
theorem arh {f : AS → Bool} (h : ∀ j, j < ps.length → f (ps.getD j default) = true) : ps.all f = true := List.all_eq_true.2 fun q hq => by
 obtain ⟨j, hj, rfl⟩ := nu hq
 exact h j hj
end
end Go.Hx
end
section
namespace Go.Hx
open Go.Proofs
def b0l (n : Int) (l : List Fd) (i : Nat) : Bool := ((abe n l).take i).any (gr n l)
section
variable {n : Int} {l : List Fd}
end
section
variable {d : Dps}
end
end Go.Hx
end
section
namespace Go.Hx
def t7 (l : List Fd) (z : Int) : Option PV := match l.find? (fun f => decide (asI f.lhs = z)) with | some f => some (asC (mgR l f.lhs)) | none => none
def xa (l : List Fd) : MK → Option PV
 | .i .u32 z => t7 l z
 | _ => none
theorem wfA (s : AS) : (Lit.int .u32 (asI s)).wf = true := by
 have h1 := a3t s
 have h2 := zo s
 have e1 : IntKind.min .u32 = 0 := by decide
 have e2 : IntKind.max .u32 = 4294967295 := by decide
 simp only [Lit.wf, e1, e2, Bool.and_eq_true, decide_eq_true_eq]
 omega
theorem ank {l : List Fd} {s : AS} (h : ∀ f ∈ l, ¬ f.lhs = s) : mgR l s = 0 := by
 unfold mgR
 rw [List.filter_eq_nil_iff.2 fun f hf => by simpa using h f hf]
 rfl
theorem a3b {l : List Fd} {s : AS} {f : Fd} (h : l.find? (fun f => decide (asI f.lhs = asI s)) = some f) : f.lhs = s := by
 have := List.find?_some h
 exact da.1 (of_decide_eq_true this)
theorem a42 (l : List Fd) (s : AS) : wk (xa l) (.i .u32 (asI s)) (.int .u32 0) = asC (mgR l s) := by
 show (match t7 l (asI s) with | some y => y | none => kc (.int .u32 0)) = _
 unfold t7
 cases h : l.find? (fun f => decide (asI f.lhs = asI s)) with
 | some f =>
  have := a3b h
  subst this
  rfl
 | none =>
  rw [ank fun f hf e => by
   have := List.find?_eq_none.1 h f hf
   rw [e] at this
   exact this (decide_eq_true rfl)]
  rfl
theorem ahb (m : MK) : CoM none (xa [] m) := by
 cases m with
 | i q z => cases q <;> exact CoM.refl _
 | s b => exact CoM.refl _
theorem aiq {l : List Fd} {i : Nat} (hi : i < l.length) (z : Int) : (if z = asI (l.getD i default).lhs then some (PV.raw (.int .u32 (ca .or .u32 (asI (mgR (l.take i) (l.getD i default).lhs)) (asI (l.getD i default).rhs)))) else t7 (l.take i) z) = t7 (l.take (i + 1)) z := by
 unfold t7
 by_cases hz : z = asI (l.getD i default).lhs
 · subst hz
   rw [if_pos rfl, azl hi rfl]
   cases h : (l.take (i + 1)).find? (fun f => decide (asI f.lhs = asI (l.getD i default).lhs)) with
   | some f =>
    have := a3b h
    rw [← this]
   | none =>
    have := List.find?_eq_none.1 h (l.getD i default) (by rw [br hi]; simp)
    exact absurd (decide_eq_true rfl) this
 · rw [if_neg hz, br hi, List.find?_append]
   have hx : [l.getD i default].find? (fun f => decide (asI f.lhs = z)) = none := by
    rw [List.find?_cons, decide_eq_false (fun e => hz e.symm)]
    rfl
   rw [hx, Option.or_none]
   cases h : (l.take i).find? (fun f => decide (asI f.lhs = z)) with
   | none => rfl
   | some f =>
    have hf0 := List.find?_some h
    have hf : asI f.lhs = z := of_decide_eq_true hf0
    dsimp only
    rw [← br hi, axy hi (fun e => hz (by rw [e]; exact hf.symm))]
theorem aiy {l : List Fd} {i : Nat} (hi : i < l.length) (m : MK) : CoM (p6 (xa (l.take i)) (.i .u32 (asI (l.getD i default).lhs)) (.raw (.int .u32 (ca .or .u32 (asI (mgR (l.take i) (l.getD i default).lhs)) (asI (l.getD i default).rhs)))) m) (xa (l.take (i + 1)) m) := by
 refine CoM.of_eq ?_
 unfold p6
 cases m with
 | s b => rfl
 | i q z =>
  by_cases hq : q = .u32
  · subst hq
    show (bif (decide True && decide (z = _)) then _ else t7 _ z) = t7 _ z
    rw [← aiq hi z]
    by_cases hz : z = asI (l.getD i default).lhs
    · rw [if_pos hz, decide_eq_true hz]; rfl
    · rw [if_neg hz, decide_eq_false hz]; rfl
  · have h1 : MK.same (.i q z) (.i .u32 (asI (l.getD i default).lhs)) = false := by
     show (decide _ && decide _) = false
     rw [decide_eq_false hq, Bool.false_and]
    rw [h1]
    cases q <;> first | rfl | exact absurd rfl hq
end Go.Hx
end
section
namespace Go.Hx
open Go.Proofs
set_option maxRecDepth 100000
theorem zq (l : List Fd) (hl : l.length ≤ 16777216) : ah Tryz.prog 137 [pP (fdl l)] (ap [pP (fdl (y4 l))]) := by
 refine ag (nt := 47) af Tryz.func137 rfl rfl l9 ?_; refine sx7 ?_; refine qy ?_; refine a6 ?_; refine sx7 ?_; refine m9 0 ?_; refine qy ?_; refine a6 ?_; refine sx7 ?_; refine qy ?_; refine a6 ?_
 refine a7 ?_; refine sx7 ?_; (iterate 3 refine qy ?_); refine a6 ?_; refine ae ?_
 refine dm 4 900 true 1 38 (lf sC []) (by decide) rfl (CoP.sl rfl (.inr rfl) (fun h => h) (fun i j hi _ => absurd hi (Nat.not_lt_zero i))) (.inr rfl) rfl ?_
 refine ai (ι := Nat) ⟨[(3, some _), (11, some _), (12, some _)], []⟩ ⟨⟨c9, c9, c9, trivial⟩, trivial⟩ (fun i => ⟨[(4, some (.v (.one (.ref 900 ((l.take i).map Fd.lhs).length)))), (13, some (vI i))], [(0, some (.mp (.int .u32) i (xa (l.take i)))), (900, some (.arr true 1 38 ((l.take i).map Fd.lhs).length (lf sC ((l.take i).map Fd.lhs))))]⟩) (fun i => i ≤ l.length) (fun i => l.length - i) (0) (Nat.zero_le _) ⟨⟨zy, zy, trivial⟩, ⟨⟨_, rfl, ⟨rfl, Nat.le_refl _, ahb⟩⟩, u9, trivial⟩⟩ ?_
 rintro i hi
 have hlen : ((l.take i).map Fd.lhs).length ≤ i := by rw [List.length_map, List.length_take]; omega
 refine sx7 ?_; refine qy ?_; refine a6 ?_; refine a7 ?_; refine a8 _ rfl (fun r0 => ?_) (fun r0 => ?_)
 ·
  have h0 := of_decide_eq_true r0
  try simp only [ty] at h0
  refine aa ?_; refine a7 ?_; refine ae ?_; refine sx7 ?_; (iterate 2 refine qy ?_); refine m9 1 ?_; refine s9 ?_; refine a6 ?_; refine sx7 ?_; (iterate 3 refine qy ?_)
  refine rq (out := ⟨_, .v (.one (.p (asC (mgR (l.take i) (l.getD i default).lhs))))⟩) rfl rfl rfl (congrArg (fun z => some (Out.mk _ (HR.v (HC.one (HV.p z))))) (a42 _ _)) rfl ?_ (hp := ⟨rfl, rfl, wfA _⟩)
  (iterate 3 refine qy ?_); refine rs rfl rfl rfl rfl rfl ?_ (hp := ⟨rfl, ⟨rfl, wfA _⟩, by simp only [maxLen]; omega⟩); refine a6 ?_; refine gy ?_; (iterate 3 refine qy ?_); refine m9 2 ?_
  refine ra 3 true rfl rfl rfl rfl rfl rfl ?_; refine qy ?_; refine a6 ?_; refine gy ?_; (iterate 2 refine qy ?_); refine a6 ?_; refine ⟨i + 1, ?_, ?_, ?_⟩
  · show i + 1 ≤ _; omega
  · first | omega | (dsimp only; omega)
  · exact ⟨⟨⟨_, rfl, (df (y6 (by omega)))⟩, zy, c9, c9, c9, trivial⟩, ⟨⟨_, rfl, ⟨rfl, Nat.le_refl _, aiy (by omega)⟩⟩, ⟨_, rfl, (ek (y6 (by omega)) (CoP.refl _))⟩, trivial⟩⟩
 ·
  have h0 := of_decide_eq_false r0
  try simp only [ty] at h0
  obtain rfl : i = l.length := by omega
  rw [show (l.take l.length).map Fd.lhs = l.map Fd.lhs by rw [List.take_length], show xa (l.take l.length) = xa l by rw [List.take_length]]
  refine ak ?_; refine sx7 ?_; refine qy ?_; refine a6 ?_; (iterate 2 refine a7 ?_); refine bq 4 rfl rfl rfl ?_
  have hol := a0n (l.map Fd.lhs)
  rw [List.length_map] at hol
  refine gy ?_; refine qy ?_; refine rc rfl rfl rfl rfl rfl rfl aaj (abo (l.map Fd.lhs) (by rw [List.length_map]; omega)) (CoL.refl _) rfl rfl ?_; (iterate 2 refine qy ?_); refine a6 ?_; refine ae ?_
  refine dm 7 901 true 2 40 (lf Fd.c []) (by decide) rfl (CoP.sl rfl (.inr rfl) (fun h => h) (fun i j hi _ => absurd hi (Nat.not_lt_zero i))) (.inr rfl) rfl ?_
  refine ai (ι := Nat) ⟨[(3, some _), (31, some _), (32, some _)], [(0, some _)]⟩ ⟨⟨c9, c9, c9, trivial⟩, ⟨u9, trivial⟩⟩ (fun k => ⟨[(7, some (.v (.one (.ref 901 (((ord (l.map Fd.lhs)).take k).map (mgF l)).length)))), (33, some (vI k))], [(901, some (.arr true 2 40 (((ord (l.map Fd.lhs)).take k).map (mgF l)).length (lf Fd.c (((ord (l.map Fd.lhs)).take k).map (mgF l)))))]⟩) (fun k => k ≤ (ord (l.map Fd.lhs)).length) (fun k => (ord (l.map Fd.lhs)).length - k) (0) (Nat.zero_le _) ⟨⟨zy, zy, trivial⟩, ⟨u9, trivial⟩⟩ ?_
  rintro k hk
  have hlen2 : (((ord (l.map Fd.lhs)).take k).map (mgF l)).length ≤ k := by rw [List.length_map, List.length_take]; omega
  refine sx7 ?_; refine qy ?_; refine a6 ?_; refine a7 ?_; refine a8 _ rfl (fun r1 => ?_) (fun r1 => ?_)
  ·
   have h1 := of_decide_eq_true r1
   try simp only [ty] at h1
   refine aa ?_; refine a7 ?_; refine ae ?_; refine sx7 ?_; (iterate 3 refine qy ?_); refine a6 ?_; refine gy ?_; (iterate 4 refine qy ?_)
   refine rq (out := ⟨_, .v (.one (.p (asC (mgR l ((ord (l.map Fd.lhs)).getD k default)))))⟩) rfl rfl rfl (congrArg (fun z => some (Out.mk _ (HR.v (HC.one (HV.p z))))) (a42 _ _)) rfl ?_ (hp := ⟨rfl, rfl, wfA _⟩)
   refine qy ?_; refine m9 4 ?_; refine ra 5 true rfl rfl rfl rfl rfl rfl ?_; refine qy ?_; refine a6 ?_; refine gy ?_; (iterate 2 refine qy ?_); refine a6 ?_; refine ⟨k + 1, ?_, ?_, ?_⟩
   · show k + 1 ≤ _; omega
   · first | omega | (dsimp only; omega)
   · exact ⟨⟨⟨_, rfl, (df (y6 (by omega)))⟩, zy, c9, c9, c9, trivial⟩, ⟨⟨_, rfl, (jb (y6 (by omega)) (CoP.refl _) (CoP.refl _))⟩, u9, trivial⟩⟩
  ·
   have h1 := of_decide_eq_false r1
   try simp only [ty] at h1
   obtain rfl : k = (ord (l.map Fd.lhs)).length := by omega
   refine ak ?_; refine sx7 ?_; (iterate 2 refine qy ?_); refine a6 ?_; refine bq 2 rfl rfl rfl ?_
   exact hx8 rfl rfl rfl (⟨CoC.one (CoP.of_eq (by rw [List.take_length]; rfl)), trivial⟩)
end Go.Hx
end
section
namespace Go.Hx
open Go.Proofs
theorem ams {n : Int} {l : List Fd} {p : AS} (hv : az n l = 0) (hs : sub p (b8 n)) : ah Tryz.prog 84 [pI n, pP (fdl l), pA p] (ap [pB (db l p), pI 0]) := by
 have h := as0 n l p
 have e1 : pf n l p = 0 := by unfold pf; rw [if_pos hv, if_pos hs]
 have e2 : xk n l p = db l p := by unfold xk; rw [decide_eq_true e1, Bool.true_and]
 rw [e1, e2] at h
 exact h
def abc (a b : List Fd) : Int := let i := idx (fun f => !imp a f) b; if i < 0 then 0 else i
theorem avg {a b : List Fd} {i : Nat} (hi : i < b.length) (hI : ∀ j, j < i → imp a (b.getD j default) = true) (h : imp a (b.getD i default) = false) : abc a b = (i : Int) := by
 have e : idx (fun f => !imp a f) b = (i : Int) := w4 hi (fun j hj => by rw [hI j hj]; rfl) (by rw [h]; rfl)
 unfold abc
 simp only
 rw [e, if_neg (by omega)]
theorem axm {a b : List Fd} (hI : ∀ j, j < b.length → imp a (b.getD j default) = true) : abc a b = 0 := by
 have e : idx (fun f => !imp a f) b = -1 := vz fun j hj => by rw [hI j hj]; rfl
 unfold abc
 simp only
 rw [e]
 rfl
theorem a4i {l : List Fd} {ps : List AS} {i k : Nat} {p : AS} (h : sub (BitVec.ofNat 32 k) p) : ic l ps i ++ ip l p (k + 1) = (ic l ps i ++ ip l p k) ++ [⟨BitVec.ofNat 32 k, clo l (BitVec.ofNat 32 k) &&& p⟩] := by rw [avv h, List.append_assoc]
theorem a4a {l : List Fd} {ps : List AS} {i k : Nat} {p : AS} (h : ¬ sub (BitVec.ofNat 32 k) p) : ic l ps i ++ ip l p (k + 1) = ic l ps i ++ ip l p k := by rw [ave h]
theorem afm {n : Int} {l : List Fd} {ps : List AS} (hv : az n l = 0) (h : ¬ lsC n ps l [] = 0 ∨ (lsB n ps l [] && fv l ps) = false) : a1t n l ps = lsC n ps l [] ∧ pj n l ps = false := by
 rcases h with h | h
 · exact apg hv h
 · refine ⟨if_pos hv, ?_⟩
   unfold pj
   rw [h]
   simp
end Go.Hx
end
