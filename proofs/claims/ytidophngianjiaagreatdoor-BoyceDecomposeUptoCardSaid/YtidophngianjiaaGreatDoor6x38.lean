/- A part of the proof: W1 Ls6 W2. -/
import Derived.Test.YtidophngianjiaaGreatDoor6x17
import Derived.Test.YtidophngianjiaaGreatDoor6x20
import Derived.Test.YtidophngianjiaaGreatDoor6x22
import Derived.Test.YtidophngianjiaaGreatDoor6x37
set_option linter.all false
section
namespace Go.Hx
open Go.Proofs
set_option maxRecDepth 100000
set_option maxHeartbeats 1000000
theorem at7 : goodFn Tryz.prog 131 := ⟨Tryz.f131, Tryz.func131, by kernel_rfl, by kernel_rfl⟩
theorem auk (ps : List AS) : ah Tryz.prog 131 [pP (asl ps)] (ap [pA (orL ps)]) := by
 refine ag (nt := 17) af Tryz.func131 rfl rfl l9 ?_; refine sx7 ?_; refine qy ?_; refine a6 ?_; refine sx7 ?_; refine qy ?_; refine a6 ?_; (iterate 2 refine a7 ?_)
 refine cj 0 rfl fun hn => ?_
 refine gy ?_; (iterate 3 refine qy ?_); refine a6 ?_; refine ae ?_
 refine aj (ι := Nat) ⟨[(6, some _), (7, some _)], []⟩ ⟨⟨c9, c9, trivial⟩, trivial⟩ (fun i => ⟨[(3, some (vA (orL (ps.take i)))), (8, some (vI i))], []⟩) (fun i => i ≤ ps.length) (fun i => ps.length - i) (0) (Nat.zero_le _) ⟨⟨⟨_, rfl, (CoR.refl _)⟩, zy, trivial⟩, trivial⟩ ?_
 rintro i hi
 refine sx7 ?_; refine qy ?_; refine a6 ?_; refine a7 ?_; refine a8 _ rfl (fun r0 => ?_) (fun r0 => ?_)
 ·
  have h0 := of_decide_eq_true r0
  try simp only [ty] at h0
  refine aa ?_; refine a7 ?_; refine ae ?_; refine sx7 ?_; (iterate 3 refine qy ?_); refine a6 ?_; refine gy ?_; (iterate 4 refine qy ?_); refine a6 ?_; refine gy ?_; (iterate 2 refine qy ?_)
  refine a6 ?_; refine ⟨i + 1, ?_, ?_, ?_⟩
  · show i + 1 ≤ _; omega
  · first | omega | (dsimp only; omega)
  · exact ⟨⟨⟨_, rfl, (nz (by rw [bOr, a3o (by omega)]; rfl))⟩, zy, c9, c9, trivial⟩, trivial⟩
 ·
  have h0 := of_decide_eq_false r0
  try simp only [ty] at h0
  obtain rfl : i = ps.length := by omega
  refine al ?_; refine sx7 ?_; (iterate 2 refine qy ?_); refine a6 ?_
  exact hx8 rfl rfl rfl (⟨cci (by rw [List.take_length]), trivial⟩)
theorem av5 : goodFn Tryz.prog 83 := ⟨Tryz.f83, Tryz.func83, by kernel_rfl, by kernel_rfl⟩
theorem aq8 (n : Int) (ps : List AS) : ah Tryz.prog 83 [pI n, pP (asl ps)] (ap [pI (lvE n ps)]) := by
 refine ag (nt := 28) af Tryz.func83 rfl rfl l9 ?_; refine sx7 ?_; refine qy ?_; refine a6 ?_; refine a7 ?_; refine ae ?_; refine sx7 ?_; (iterate 3 refine qy ?_)
 refine bg rfl rfl (fun r0 => ?_) (fun r0 => ?_)
 ·
  have h0 := of_decide_eq_true r0
  try simp only [ty] at h0
  (iterate 2 refine k9 (gtf r0) ?_); refine rq rfl rfl rfl rfl rfl ?_ (hp := r0); refine qy ?_; refine a6 ?_; refine a8 _ rfl (fun _ => ?_) (fun e => by cases e); refine sx7 ?_; refine qy ?_; refine a6 ?_
  exact hx8 rfl rfl rfl (⟨cci (a8u (by omega)).symm, trivial⟩)
 ·
  have h0 := of_decide_eq_false r0
  try simp only [ty] at h0
  (iterate 2 refine qy ?_ (hg := (gff r0))); (iterate 2 refine qy ?_); refine a6 ?_; refine a8 _ rfl (fun r1 => ?_) (fun r1 => ?_)
  ·
   have h1 := r1
   have h1 := bp r0 h1
   have h1 := of_decide_eq_true h1
   try simp only [ty] at h1
   refine sx7 ?_; refine qy ?_; refine a6 ?_
   exact hx8 rfl rfl rfl (⟨cci (a8u (by omega)).symm, trivial⟩)
  ·
   have h1 := r1
   have h1 := bp r0 h1
   have h1 := of_decide_eq_false h1
   try simp only [ty] at h1
   have hz0 : 0 ≤ n := by omega
   have hz1 : n ≤ 16 := by omega
   refine sx7 ?_; (iterate 4 refine qy ?_); refine a6 ?_; refine a8 _ rfl (fun r2 => ?_) (fun r2 => ?_)
   ·
    have h2 := of_decide_eq_true r2
    try simp only [ty] at h2
    refine sx7 ?_; refine qy ?_; refine a6 ?_
    exact hx8 rfl rfl rfl (⟨cci (aow (by omega) (by omega)).symm, trivial⟩)
   ·
    have h2 := of_decide_eq_false r2
    try simp only [ty] at h2
    refine a7 ?_; refine aw (E := b4) af aq [0, 1, 2, 3, 4, 5, 6, 7, 8, 9, 10, 11] ?_; (iterate 4 refine qy ?_); refine bg rfl rfl (fun r3 => ?_) (fun r3 => ?_)
    ·
     have h3 := of_decide_eq_true r3
     try simp only [ty] at h3
     (iterate 6 refine k9 (gtf r3) ?_); refine rq rfl rfl rfl rfl rfl ?_ (hp := r3); refine qy ?_; refine a6 ?_; refine ⟨by kernel_rfl, ?_⟩; refine a8 _ rfl (fun _ => ?_) (fun e => by cases e); refine sx7 ?_
     refine qy ?_; refine a6 ?_
     exact hx8 rfl rfl rfl (⟨cci (a8n (by omega) (by omega) (by first | exact .inl (by omega) | exact .inr (fun e => absurd (show asI (orL ps) = IntKind.wrap .u32 (1 * 2 ^ (min n.toNat 32)) - 1 by rw [te hz0 hz1, e]) (by assumption)))).symm, trivial⟩)
    ·
     have h3 := of_decide_eq_false r3
     try simp only [ty] at h3
     refine qy ?_ (hg := (gff r3)); refine rc rfl rfl rfl rfl rfl rfl at7 (auk ps) (CoL.refl _) rfl (gff r3) ?_; (iterate 2 refine qy ?_ (hg := (gff r3)))
     refine rq rfl rfl rfl rfl (gff r3) ?_ (hp := ⟨a2z hz0 hz1, ym hz0 hz1⟩); refine qy ?_ (hg := (gff r3)); (iterate 2 refine qy ?_); refine a6 ?_; refine ⟨by kernel_rfl, ?_⟩
     refine a8 _ rfl (fun r4 => ?_) (fun r4 => ?_)
     ·
      have h4 := r4
      have h4 := bp r3 h4
      have h4 := of_decide_eq_false (ay h4)
      try simp only [ty] at h4
      refine sx7 ?_; refine qy ?_; refine a6 ?_
      exact hx8 rfl rfl rfl (⟨cci (a8n (by omega) (by omega) (by first | exact .inl (by omega) | exact .inr (fun e => absurd (show asI (orL ps) = IntKind.wrap .u32 (1 * 2 ^ (min n.toNat 32)) - 1 by rw [te hz0 hz1, e]) (by assumption)))).symm, trivial⟩)
     ·
      have h4 := r4
      have h4 := bp r3 h4
      have h4 := of_decide_eq_true (ax h4)
      try simp only [ty] at h4
      refine aa ?_; refine sx7 ?_; refine qy ?_; refine a6 ?_; refine am ?_; refine ⟨.inr rfl, ?_⟩
      exact ⟨_, _, _, _, rfl, (by (repeat' apply And.intro) <;> first | trivial | exact Nat.le_of_ble_eq_true rfl | rfl), rfl, (by (repeat' apply And.intro) <;> first | trivial | exact Nat.le_of_ble_eq_true rfl | rfl), ⟨cci (af5 (by omega) (by omega) (fun e => by
       rcases e with e | e
       · omega
       · exact e (d4.1 ((by assumption : asI (orL ps) = IntKind.wrap .u32 (1 * 2 ^ (min n.toNat 32)) - 1).trans (te hz0 hz1))))).symm, trivial⟩⟩
theorem aw3 : goodFn Tryz.prog 98 := ⟨Tryz.f98, Tryz.func98, by kernel_rfl, by kernel_rfl⟩
theorem asi (n : Int) (ps : List AS) (p m : List Fd) : ah Tryz.prog 98 [pI n, pP (asl ps), pP (fdl p), pP (fdl m)] (ap [pT (lcR n ps p m).1.1 (lcR n ps p m).1.2, pP (stl (lcR n ps p m).2.1), pT (lcR n ps p m).2.2.1.1 (lcR n ps p m).2.2.1.2, pI (lcR n ps p m).2.2.2]) := by
 refine ag (nt := 58) af Tryz.func98 rfl rfl l9 ?_; refine sx7 ?_; refine m9 0 ?_; refine qy ?_; refine m9 1 ?_; refine qy ?_; refine a6 ?_; refine a7 ?_; refine sx7 ?_; (iterate 2 refine qy ?_)
 refine rc rfl rfl rfl rfl rfl rfl av5 (aq8 n ps) (CoL.refl _) rfl rfl ?_; refine qy ?_; refine a6 ?_; refine sx7 ?_; (iterate 2 refine qy ?_); refine a6 ?_; refine a8 _ rfl (fun r0 => ?_) (fun r0 => ?_)
 ·
  have h0 := r0
  have h0 := of_decide_eq_false (ay h0)
  try simp only [ty] at h0
  refine sx7 ?_; (iterate 3 refine qy ?_); refine s9 ?_; refine qy ?_; refine s9 ?_; refine qy ?_; refine a6 ?_; refine am ?_; refine ⟨.inr rfl, ?_⟩
  have he := ayb (p := p) (m := m) (by assumption : ¬ lvE n ps = 0)
  exact f9 rfl rfl (by rw [he]; exact ⟨CoC.agg ⟨CoP.refl _, bv, trivial⟩, CoC.one (CoP.sl rfl (.inr rfl) (fun _ => rfl) (fun i j hi _ => absurd hi (Nat.not_lt_zero i))), CoC.agg ⟨CoP.refl _, bv, trivial⟩, CoC.refl _, trivial⟩)
 ·
  have h0 := r0
  have h0 := of_decide_eq_true (ax h0)
  try simp only [ty] at h0
  have hv : lvE n ps = 0 := by assumption
  refine aa ?_; refine a7 ?_; refine sx7 ?_; (iterate 3 refine qy ?_); refine rc rfl rfl rfl rfl rfl rfl akr (adx n p m) (CoL.refl _) rfl rfl ?_; refine qy ?_; refine a6 ?_; refine sx7 ?_
  (iterate 2 refine qy ?_); refine a6 ?_; refine a8 _ rfl (fun r1 => ?_) (fun r1 => ?_)
  ·
   have h1 := r1
   have h1 := of_decide_eq_false (ay h1)
   try simp only [ty] at h1
   refine sx7 ?_; (iterate 3 refine qy ?_); refine s9 ?_; refine qy ?_; refine s9 ?_; refine qy ?_; refine a6 ?_; refine am ?_; refine ⟨.inr rfl, ?_⟩
   have he := ayu hv (by assumption : ¬ cq n p m = 0)
   exact f9 rfl rfl (by rw [he]; exact ⟨CoC.agg ⟨CoP.refl _, bv, trivial⟩, CoC.one (CoP.sl rfl (.inr rfl) (fun _ => rfl) (fun i j hi _ => absurd hi (Nat.not_lt_zero i))), CoC.agg ⟨CoP.refl _, bv, trivial⟩, CoC.refl _, trivial⟩)
  ·
   have h1 := r1
   have h1 := of_decide_eq_true (ax h1)
   try simp only [ty] at h1
   have hb : cq n p m = 0 := by assumption
   refine aa ?_; refine sx7 ?_; (iterate 2 refine qy ?_); refine rc rfl rfl rfl rfl rfl rfl atb (as8 n ps hv) (CoL.refl _) rfl rfl ?_; (iterate 3 refine qy ?_); refine m9 2 ?_; refine s9 ?_; refine qy ?_
   refine a6 ?_; refine a7 ?_; refine sx7 ?_; (iterate 2 refine qy ?_); refine a6 ?_; refine a8 _ rfl (fun e => by cases e) (fun _ => ?_); refine aa ?_; refine sx7 ?_; (iterate 3 refine qy ?_)
   refine rc rfl rfl rfl rfl rfl rfl au0 (atx n ps p m) (CoL.refl _) rfl rfl ?_; (iterate 4 refine qy ?_); refine m9 3 ?_; refine qy ?_; refine s9 ?_; refine qy ?_; refine a6 ?_; refine a7 ?_
   refine aw (E := b4) af aq [0, 1, 2, 3, 4, 5, 6, 7] ?_; (iterate 4 refine qy ?_); refine s9 ?_; refine qy ?_; refine s9 ?_; refine qy ?_; refine a6 ?_; refine ⟨by kernel_rfl, ?_⟩; refine am ?_
   refine ⟨.inr rfl, ?_⟩
   have he := aos hv hb
   exact f9 rfl rfl (by rw [he]; exact CoL.refl _)
theorem as1 : goodFn Tryz.prog 100 := ⟨Tryz.f100, Tryz.func100, by kernel_rfl, by kernel_rfl⟩
theorem atf (n : Int) (h0 : 0 ≤ n) (h1 : n ≤ 16) : ah Tryz.prog 100 [pI n] (ap [pZ (ce n)]) := by
 refine ag (nt := 18) af Tryz.func100 rfl rfl l9 ?_; refine sx7 ?_; refine qy ?_; refine a6 ?_; refine sx7 ?_; refine qy ?_; refine m9 0 ?_; refine qy ?_; refine a6 ?_; refine a7 ?_; refine sx7 ?_
 (iterate 3 refine qy ?_); refine a6 ?_; refine ae ?_
 refine aj (ι := Nat) ⟨[(3, some _), (8, some _)], []⟩ ⟨⟨c9, c9, trivial⟩, trivial⟩ (fun k => ⟨[(9, some (vI k))], [(0, some (.arr true 1 3 n.toNat (lf zC (stT n 0 (ij 32) k))))]⟩) (fun k => k ≤ n.toNat) (fun k => n.toNat - k) (0) (Nat.zero_le _) ⟨⟨zy, trivial⟩, ⟨⟨_, rfl, (ace rfl (fun _ => rfl))⟩, trivial⟩⟩ ?_
 rintro k hk
 refine sx7 ?_; refine qy ?_; refine a6 ?_; refine a7 ?_; refine a8 _ rfl (fun r0 => ?_) (fun r0 => ?_)
 ·
  have h0 := of_decide_eq_true r0
  try simp only [ty] at h0
  refine aa ?_; refine a7 ?_; refine ae ?_; refine sx7 ?_; (iterate 2 refine qy ?_); refine a6 ?_; refine gy ?_; (iterate 4 refine qy ?_); refine s9 ?_; refine a6 ?_; refine gy ?_; (iterate 2 refine qy ?_)
  refine a6 ?_; refine ⟨k + 1, ?_, ?_, ?_⟩
  · show k + 1 ≤ _; omega
  · first | omega | (dsimp only; omega)
  · exact ⟨⟨zy, c9, c9, trivial⟩, ⟨⟨_, rfl, (auy (aj6 (by omega)) rfl (by omega))⟩, trivial⟩⟩
 ·
  have h0 := of_decide_eq_false r0
  try simp only [ty] at h0
  refine al ?_; refine a7 ?_; refine bs 3 rfl rfl rfl ?_; refine gy ?_; (iterate 2 refine qy ?_); refine a6 ?_
  exact hx8 rfl rfl rfl (⟨aia h1 (by omega), trivial⟩)
theorem avl : goodFn Tryz.prog 50 := ⟨Tryz.f50, Tryz.func50, by kernel_rfl, by kernel_rfl⟩
theorem aze (n : Int) (ps : List AS) (p m : List Fd) : ah Tryz.prog 50 [pI n, pP (asl ps), pP (fdl p), pP (fdl m)] (ap [pB (lsB n ps p m), pI (lsC n ps p m)]) := by
 refine ag (nt := 33) af Tryz.func50 rfl rfl l9 ?_; refine sx7 ?_; (iterate 2 refine qy ?_); refine a6 ?_; refine sx7 ?_; (iterate 4 refine qy ?_)
 refine rc rfl rfl rfl rfl rfl rfl aw3 (asi n ps p m) (CoL.refl _) rfl rfl ?_; (iterate 5 refine qy ?_); refine m9 0 ?_; refine m9 1 ?_; refine s9 ?_; refine qy ?_; refine s9 ?_; refine qy ?_; refine a6 ?_
 refine a7 ?_; refine aw (E := b4) af aq [0, 1, 2, 3, 4, 5, 6, 7, 8, 9, 10] ?_; (iterate 3 refine qy ?_); refine bg rfl rfl (fun r0 => ?_) (fun r0 => ?_)
 ·
  have h0 := of_decide_eq_true r0
  try simp only [ty] at h0
  have hz := azq (n := n) (ps := ps) (p := p) (m := m) rfl h0
  (iterate 2 refine qy ?_ (hg := (gtt r0))); refine rc rfl rfl rfl rfl rfl rfl as1 (atf n hz.1 (by omega)) (CoL.refl _) rfl (gtt r0) ?_
  refine rc rfl rfl rfl rfl rfl rfl ajs (aor (lcR n ps p m).2.2.1.1 (lcR n ps p m).2.2.1.2 (ce n)) (CoL.refl _) rfl (gtt r0) ?_; (iterate 4 refine qy ?_); refine a6 ?_; refine ⟨by kernel_rfl, ?_⟩
  exact hx8 rfl rfl rfl (⟨ccb (by first | exact avu | exact amv (n := n) (ps := ps) (p := p) (m := m) (by assumption) | exact (aoi (n := n) (ps := ps) (p := p) (m := m) (by assumption)).symm), cci sy, trivial⟩)
 ·
  have h0 := of_decide_eq_false r0
  try simp only [ty] at h0
  (iterate 4 refine k9 (gft r0) ?_); refine rq rfl rfl rfl rfl rfl ?_ (hp := r0); (iterate 3 refine qy ?_); refine a6 ?_; refine ⟨by kernel_rfl, ?_⟩
  exact hx8 rfl rfl rfl (⟨ccb (by first | exact avu | exact amv (n := n) (ps := ps) (p := p) (m := m) (by assumption) | exact (aoi (n := n) (ps := ps) (p := p) (m := m) (by assumption)).symm), cci sy, trivial⟩)
theorem atw : goodFn Tryz.prog 143 := ⟨Tryz.f143, Tryz.func143, by kernel_rfl, by kernel_rfl⟩
theorem ank (n : Int) (ps : List AS) : ah Tryz.prog 143 [pI n, pP (asl ps)] (ap [pI (lvE n ps)]) := by
 refine ag (nt := 37) af Tryz.func143 rfl rfl l9 ?_; refine sx7 ?_; refine qy ?_; refine a6 ?_; refine a7 ?_; refine sx7 ?_; (iterate 3 refine qy ?_); refine bg rfl rfl (fun r0 => ?_) (fun r0 => ?_)
 ·
  have h0 := of_decide_eq_true r0
  try simp only [ty] at h0
  (iterate 2 refine k9 (gtf r0) ?_); refine rq rfl rfl rfl rfl rfl ?_ (hp := r0); refine a6 ?_; refine a8 _ rfl (fun _ => ?_) (fun e => by cases e); refine sx7 ?_; refine qy ?_; refine a6 ?_
  exact hx8 rfl rfl rfl (⟨cci (a8u (by omega)).symm, trivial⟩)
 ·
  have h0 := of_decide_eq_false r0
  try simp only [ty] at h0
  (iterate 2 refine qy ?_ (hg := (gff r0))); refine qy ?_; refine a6 ?_; refine a8 _ rfl (fun r1 => ?_) (fun r1 => ?_)
  ·
   have h1 := r1
   have h1 := bp r0 h1
   have h1 := of_decide_eq_true h1
   try simp only [ty] at h1
   refine sx7 ?_; refine qy ?_; refine a6 ?_
   exact hx8 rfl rfl rfl (⟨cci (a8u (by omega)).symm, trivial⟩)
  ·
   have h1 := r1
   have h1 := bp r0 h1
   have h1 := of_decide_eq_false h1
   try simp only [ty] at h1
   refine aa ?_; refine a7 ?_; refine sx7 ?_; (iterate 3 refine qy ?_); refine a6 ?_; refine a8 _ rfl (fun r2 => ?_) (fun r2 => ?_)
   ·
    have h2 := of_decide_eq_true r2
    try simp only [ty] at h2
    refine sx7 ?_; refine qy ?_; refine a6 ?_
    exact hx8 rfl rfl rfl (⟨cci (aow (by omega) (by omega)).symm, trivial⟩)
   ·
    have h2 := of_decide_eq_false r2
    try simp only [ty] at h2
    refine aa ?_; refine sx7 ?_; refine qy ?_; refine a6 ?_; refine a7 ?_; refine sx7 ?_; refine qy ?_; refine a6 ?_; refine ae ?_
    refine aj (ι := Nat) ⟨[(0, some _), (1, some _)], []⟩ ⟨⟨c9, c9, trivial⟩, trivial⟩ (fun i => ⟨[(5, some (vA (orL (ps.take i)))), (6, some (vI i))], []⟩) (fun i => i ≤ ps.length) (fun i => ps.length - i) (0) (Nat.zero_le _) ⟨⟨⟨_, rfl, (CoR.refl _)⟩, zy, trivial⟩, trivial⟩ ?_
    rintro i hi
    refine a7 ?_; refine sx7 ?_; (iterate 4 refine qy ?_); refine a6 ?_; refine a8 _ rfl (fun r3 => ?_) (fun r3 => ?_)
    ·
     have h3 := of_decide_eq_true r3
     try simp only [ty] at h3
     refine aa ?_; refine a7 ?_; refine ae ?_; refine gy ?_; (iterate 7 refine qy ?_); refine a6 ?_; refine gy ?_; (iterate 3 refine qy ?_); refine a6 ?_; refine ⟨i + 1, ?_, ?_, ?_⟩
     · show i + 1 ≤ _; omega
     · first | omega | (dsimp only; omega)
     · exact ⟨⟨⟨_, rfl, (nz (by rw [bOr, a3o (by omega)]; rfl))⟩, zy, c9, c9, trivial⟩, trivial⟩
    ·
     have h3 := of_decide_eq_false r3
     try simp only [ty] at h3
     obtain rfl : i = ps.length := by omega
     rw [show ps.take ps.length = ps from List.take_length]
     refine al ?_; refine a7 ?_; refine sx7 ?_; (iterate 4 refine qy ?_); refine bg rfl rfl (fun r4 => ?_) (fun r4 => ?_)
     ·
      have h4 := of_decide_eq_true r4
      try simp only [ty] at h4
      (iterate 4 refine k9 (gtf r4) ?_); refine rq rfl rfl rfl rfl rfl ?_ (hp := r4); refine a6 ?_; refine a8 _ rfl (fun _ => ?_) (fun e => by cases e); refine sx7 ?_; refine qy ?_; refine a6 ?_
      exact hx8 rfl rfl rfl (⟨cci (a8n (by omega) (by omega) (by first | exact .inl (by omega) | exact .inr (fun e => absurd (show asI (orL ps) = asI (bf n) by rw [e]) (by assumption)))).symm, trivial⟩)
     ·
      have h4 := of_decide_eq_false r4
      try simp only [ty] at h4
      (iterate 2 refine qy ?_ (hg := (gff r4))); refine rc rfl rfl rfl rfl rfl rfl vc (vo n) (CoL.refl _) rfl (gff r4) ?_; refine qy ?_ (hg := (gff r4)); refine qy ?_; refine a6 ?_
      refine a8 _ rfl (fun r5 => ?_) (fun r5 => ?_)
      ·
       have h5 := r5
       have h5 := bp r4 h5
       have h5 := of_decide_eq_false (ay h5)
       try simp only [ty] at h5
       refine sx7 ?_; refine qy ?_; refine a6 ?_
       exact hx8 rfl rfl rfl (⟨cci (a8n (by omega) (by omega) (by first | exact .inl (by omega) | exact .inr (fun e => absurd (show asI (orL ps) = asI (bf n) by rw [e]) (by assumption)))).symm, trivial⟩)
      ·
       have h5 := r5
       have h5 := bp r4 h5
       have h5 := of_decide_eq_true (ax h5)
       try simp only [ty] at h5
       refine aa ?_; refine sx7 ?_; refine qy ?_; refine a6 ?_; refine am ?_; refine ⟨.inr rfl, ?_⟩
       exact ⟨_, _, _, _, rfl, (by (repeat' apply And.intro) <;> first | trivial | exact Nat.le_of_ble_eq_true rfl | rfl), rfl, (by (repeat' apply And.intro) <;> first | trivial | exact Nat.le_of_ble_eq_true rfl | rfl), ⟨cci (af5 (by omega) (by omega) (fun e => by
        rcases e with e | e
        · omega
        · exact e (d4.1 (by assumption)))).symm, trivial⟩⟩
theorem avg : goodFn Tryz.prog 95 := ⟨Tryz.f95, Tryz.func95, by kernel_rfl, by kernel_rfl⟩
theorem aty (n : Int) (ps : List AS) (p m : List Fd) : ah Tryz.prog 95 [pI n, pP (asl ps), pP (fdl p), pP (fdl m)] (ap [pP (stl (rcR n ps p m).1), pP (psl 2 tbC (rcR n ps p m).2.1), pI (rcR n ps p m).2.2]) := by
 refine ag (nt := 77) af Tryz.func95 rfl rfl l9 ?_; refine sx7 ?_; (iterate 3 refine qy ?_); refine a6 ?_; refine a7 ?_; refine sx7 ?_; (iterate 2 refine qy ?_)
 refine rc rfl rfl rfl rfl rfl rfl atw (ank n ps) (CoL.refl _) rfl rfl ?_; refine qy ?_; refine a6 ?_; refine sx7 ?_; (iterate 2 refine qy ?_); refine a6 ?_; refine a8 _ rfl (fun r0 => ?_) (fun r0 => ?_)
 ·
  have h0 := r0
  have h0 := of_decide_eq_false (ay h0)
  try simp only [ty] at h0
  refine sx7 ?_; (iterate 4 refine qy ?_); refine a6 ?_; refine am ?_; refine ⟨.inr rfl, ?_⟩
  have he := afy (n := n) (ps := ps) (p := p) (m := m) (az0 (by assumption)).1 (by assumption)
  exact f9 rfl rfl (by rw [he]; exact ⟨CoC.one (CoP.sl rfl (.inr rfl) (fun _ => rfl) (fun i j hi _ => absurd hi (Nat.not_lt_zero i))), CoC.one (CoP.sl rfl (.inr rfl) (fun _ => rfl) (fun i j hi _ => absurd hi (Nat.not_lt_zero i))), CoC.refl _, trivial⟩)
 ·
  have h0 := r0
  have h0 := of_decide_eq_true (ax h0)
  try simp only [ty] at h0
  have hv : lvE n ps = 0 := by assumption
  refine aa ?_; refine a7 ?_; refine sx7 ?_; (iterate 3 refine qy ?_); refine rc rfl rfl rfl rfl rfl rfl a15 (xe n p m) (CoL.refl _) rfl rfl ?_; refine qy ?_; refine a6 ?_; refine sx7 ?_
  (iterate 2 refine qy ?_); refine a6 ?_; refine a8 _ rfl (fun r1 => ?_) (fun r1 => ?_)
  ·
   have h1 := r1
   have h1 := of_decide_eq_false (ay h1)
   try simp only [ty] at h1
   refine sx7 ?_; (iterate 4 refine qy ?_); refine a6 ?_; refine am ?_; refine ⟨.inr rfl, ?_⟩
   have he := afy (n := n) (ps := ps) (p := p) (m := m) (azc hv (by assumption)).1 (by assumption)
   exact f9 rfl rfl (by rw [he]; exact ⟨CoC.one (CoP.sl rfl (.inr rfl) (fun _ => rfl) (fun i j hi _ => absurd hi (Nat.not_lt_zero i))), CoC.one (CoP.sl rfl (.inr rfl) (fun _ => rfl) (fun i j hi _ => absurd hi (Nat.not_lt_zero i))), CoC.refl _, trivial⟩)
  ·
   have h1 := r1
   have h1 := of_decide_eq_true (ax h1)
   try simp only [ty] at h1
   have hb : cq n p m = 0 := by assumption
   refine aa ?_; refine sx7 ?_; (iterate 2 refine qy ?_); refine rc rfl rfl rfl rfl rfl rfl apv (ao3 n ps hv) (CoL.refl _) rfl rfl ?_; (iterate 3 refine qy ?_); refine m9 0 ?_; refine s9 ?_; refine qy ?_
   refine a6 ?_; refine a7 ?_; refine sx7 ?_; (iterate 2 refine qy ?_); refine a6 ?_; refine a8 _ rfl (fun e => by cases e) (fun _ => ?_); refine aa ?_; refine sx7 ?_; (iterate 3 refine qy ?_)
   refine rc rfl rfl rfl rfl rfl rfl ar1 (an8 n ps p m) (CoL.refl _) rfl rfl ?_; (iterate 4 refine qy ?_); refine m9 1 ?_; refine qy ?_; refine s9 ?_; refine qy ?_; refine a6 ?_; refine a7 ?_; refine sx7 ?_
   (iterate 2 refine qy ?_); refine a6 ?_; refine a8 _ rfl (fun r2 => ?_) (fun r2 => ?_)
   ·
    have h2 := r2
    have h2 := of_decide_eq_false (ay h2)
    try simp only [ty] at h2
    refine sx7 ?_; (iterate 4 refine qy ?_); refine a6 ?_; refine am ?_; refine ⟨.inr rfl, ?_⟩
    have he := afy (n := n) (ps := ps) (p := p) (m := m) (a8v hv hb) (by assumption)
    exact f9 rfl rfl (by rw [he]; exact ⟨CoC.one (CoP.sl rfl (.inr rfl) (fun _ => rfl) (fun i j hi _ => absurd hi (Nat.not_lt_zero i))), CoC.one (CoP.sl rfl (.inr rfl) (fun _ => rfl) (fun i j hi _ => absurd hi (Nat.not_lt_zero i))), CoC.refl _, trivial⟩)
   ·
    have h2 := r2
    have h2 := of_decide_eq_true (ax h2)
    try simp only [ty] at h2
    have hc : (lsT n ps p m).2.2 = 0 := by assumption
    have htr := awx hv hb hc
    have hfew : (lsT n ps p m).1.length ≤ 1300000 := aey (p := p) (m := m) hv hb
    have hls : lsC n ps p m = 0 := (a8v hv hb).trans hc
    refine aa ?_; refine sx7 ?_; refine qy ?_; refine m9 2 ?_; refine qy ?_; refine a6 ?_; refine a7 ?_; refine sx7 ?_; refine qy ?_; refine a6 ?_; refine ae ?_
    refine aj (ι := Nat) ⟨[(2, some _), (3, some _), (13, some _), (15, some _)], []⟩ ⟨⟨c9, c9, c9, c9, trivial⟩, trivial⟩ (fun i => ⟨[(17, some (.v (.one (.ref 2 ((jc n p m (az (be n ps)) (lsT n ps p m).1).take (i + 1)).length)))), (18, some (vI i))], [(0, some (.box [.p (.raw (.int .i64 n)), .p (rl ((trL n p m (az (be n ps)) (lsT n ps p m).1).getD i default))])), (2, some (.arr true 2 120 ((jc n p m (az (be n ps)) (lsT n ps p m).1).take (i + 1)).length (lf tbC ((jc n p m (az (be n ps)) (lsT n ps p m).1).take (i + 1)))))]⟩) (fun i => i ≤ (lsT n ps p m).1.length) (fun i => (lsT n ps p m).1.length - i) (0) (Nat.zero_le _) ⟨⟨⟨_, rfl, (kp (by rw [aa0]; rfl))⟩, zy, trivial⟩, ⟨⟨_, rfl, (by rw [asv]; exact CoO.refl _)⟩, ⟨_, rfl, (asm aa0 rfl (CoP.refl _) (CoP.refl _))⟩, trivial⟩⟩ ?_
    rintro i hi
    have hlen : ((jc n p m (az (be n ps)) (lsT n ps p m).1).take (i + 1)).length ≤ i + 1 := by rw [List.length_take]; omega
    refine a7 ?_; refine sx7 ?_; (iterate 4 refine qy ?_); refine a6 ?_; refine a8 _ rfl (fun r3 => ?_) (fun r3 => ?_)
    ·
     have h3 := of_decide_eq_true r3
     try simp only [ty] at h3
     obtain ⟨hx1, hx2, hx3⟩ := az3 (by omega) (aou htr (i := i) (by omega))
     refine aa ?_; refine a7 ?_; refine ae ?_; refine a7 ?_; refine aw (E := b4) af aq [0, 1, 2, 3, 4, 5, 6, 7, 8, 9, 10, 11] ?_; (iterate 7 refine qy ?_)
     refine rc rfl rfl rfl rfl rfl rfl adp (ah5 n ((trL n p m (az (be n ps)) (lsT n ps p m).1).getD i default) p m ((lsT n ps p m).1.getD i default) hx1 hb hx2 hx3) (CoL.refl _) rfl rfl ?_
     (iterate 3 refine qy ?_); refine s9 ?_; refine a6 ?_; refine ⟨by kernel_rfl, ?_⟩; refine gy ?_; (iterate 2 refine qy ?_); refine m9 3 ?_; refine ra 4 true rfl rfl rfl rfl rfl rfl ?_; refine qy ?_; refine a6 ?_
     refine gy ?_; (iterate 3 refine qy ?_); refine a6 ?_; refine ⟨i + 1, ?_, ?_, ?_⟩
     · show i + 1 ≤ _; omega
     · first | omega | (dsimp only; omega)
     · exact ⟨⟨⟨_, rfl, (ej (a8c (by omega)))⟩, zy, c9, c9, c9, c9, trivial⟩, ⟨⟨_, rfl, (by rw [a6c (by omega)]; exact CoO.refl _)⟩, ⟨_, rfl, (td (a8c (by omega)) (CoP.refl _) (CoP.refl _))⟩, trivial⟩⟩
    ·
     have h3 := of_decide_eq_false r3
     try simp only [ty] at h3
     obtain rfl : i = (lsT n ps p m).1.length := by omega
     refine al ?_; refine a7 ?_; refine bs 17 rfl rfl rfl ?_; refine gy ?_; (iterate 5 refine qy ?_); refine a6 ?_; refine am ?_; refine ⟨.inr rfl, ?_⟩
     have he := a8m hls
     exact f9 rfl rfl (by rw [he]; exact ⟨CoC.refl _, (by rw [List.take_of_length_le (by rw [a2w]; omega)]; exact CoC.refl _), CoC.refl _, trivial⟩)
theorem aug : goodFn Tryz.prog 49 := ⟨Tryz.f49, Tryz.func49, by kernel_rfl, by kernel_rfl⟩
theorem aqx (n : Int) (ps : List AS) (p m : List Fd) : ah Tryz.prog 49 [pI n, pP (asl ps), pP (fdl p), pP (fdl m)] (ap [pP (stl (prS n ps p m)), pI (prC n ps p m)]) := by
 refine ag (nt := 42) af Tryz.func49 rfl rfl l9 ?_; refine sx7 ?_; (iterate 2 refine qy ?_); refine a6 ?_; refine sx7 ?_; (iterate 4 refine qy ?_)
 refine rc rfl rfl rfl rfl rfl rfl avg (aty n ps p m) (CoL.refl _) rfl rfl ?_; (iterate 7 refine qy ?_); refine a6 ?_; refine a7 ?_; refine sx7 ?_; (iterate 2 refine qy ?_); refine a6 ?_
 refine a8 _ rfl (fun r0 => ?_) (fun r0 => ?_)
 ·
  have h0 := r0
  have h0 := of_decide_eq_false (ay h0)
  try simp only [ty] at h0
  refine sx7 ?_; (iterate 3 refine qy ?_); refine a6 ?_; refine am ?_; refine ⟨.inr rfl, ?_⟩
  have hn : ¬ (rcR n ps p m).2.2 = 0 := by assumption
  have e1 : prS n ps p m = [] := if_neg hn
  have e2 : prC n ps p m = (rcR n ps p m).2.2 := if_neg hn
  exact f9 rfl rfl (by rw [e1, e2]; exact ⟨CoC.one (CoP.sl rfl (.inr rfl) (fun _ => rfl) (fun i j hi _ => absurd hi (Nat.not_lt_zero i))), CoC.refl _, trivial⟩)
 ·
  have h0 := r0
  have h0 := of_decide_eq_true (ax h0)
  try simp only [ty] at h0
  have hc : (rcR n ps p m).2.2 = 0 := by assumption
  obtain ⟨hz0, hz1, hfew0⟩ := b03 hc
  have hfew : (rcR n ps p m).1.length ≤ 1300000 := hfew0
  have hln := aub hc
  refine aa ?_; refine a7 ?_; refine sx7 ?_; refine qy ?_; refine a6 ?_; refine ae ?_
  refine aj (ι := Nat) ⟨[(0, some _), (10, some _), (11, some _)], []⟩ ⟨⟨c9, c9, c9, trivial⟩, trivial⟩ (fun i => ⟨[(13, some (vI i))], []⟩) (fun i => i ≤ (rcR n ps p m).2.1.length ∧ (∀ j, j < i → a5u n ((rcR n ps p m).2.1.getD j default).2 = false)) (fun i => (rcR n ps p m).2.1.length - i) (0) (⟨Nat.zero_le _, fun j hj => absurd hj (Nat.not_lt_zero j)⟩) ⟨⟨zy, trivial⟩, trivial⟩ ?_
  rintro i ⟨hi, hI⟩
  refine a7 ?_; refine sx7 ?_; (iterate 4 refine qy ?_); refine a6 ?_; refine a8 _ rfl (fun r1 => ?_) (fun r1 => ?_)
  ·
   have h1 := of_decide_eq_true r1
   try simp only [ty] at h1
   refine aa ?_; refine a7 ?_; refine ae ?_; refine a7 ?_; refine aw (E := b4) af aq [0, 1, 2, 3, 4, 5, 6] ?_; (iterate 5 refine qy ?_)
   refine rc rfl rfl rfl rfl rfl rfl ax2 (awz n hz1) (CoL.refl _) rfl rfl ?_
   refine rc rfl rfl rfl rfl rfl rfl a9k (aat ((rcR n ps p m).2.1.getD i default).1 ((rcR n ps p m).2.1.getD i default).2 (ce n)) (CoL.refl _) rfl rfl ?_; refine a6 ?_; refine ⟨by kernel_rfl, ?_⟩
   refine a8 _ rfl (fun r2 => ?_) (fun r2 => ?_)
   ·
    have h2 := r2
    have hx : prX n ps p m = (i : Int) := ud (p := (fun a : Int × List Rw => a5u n a.2)) (i := i) (by omega) hI (by assumption)
    refine sx7 ?_; (iterate 5 refine qy ?_); refine a6 ?_; refine am ?_; refine ⟨.inr rfl, ?_⟩
    have e1 : prS n ps p m = (rcR n ps p m).1.take i := by
     unfold prS
     rw [if_pos hc, if_neg (by omega), hx]
     rfl
    have e2 : prC n ps p m = 0 := by
     unfold prC
     rw [if_pos hc, if_neg (by omega)]
    exact f9 rfl rfl (by rw [e1, e2]; exact ⟨CoC.one (amr (by rw [List.length_take]; dsimp only [dx, bc]; omega) (fun a j => by first | rfl | (simp; rfl))), CoC.refl _, trivial⟩)
   ·
    have h2 := r2
    refine aa ?_; refine gy ?_; (iterate 3 refine qy ?_); refine a6 ?_; refine ⟨i + 1, ?_, ?_, ?_⟩
    · refine ⟨by omega, fun j hj => ?_⟩
      by_cases e : j = i
      · rw [e]; assumption
      · exact hI j (by omega)
    · first | omega | (dsimp only; omega)
    · exact ⟨⟨zy, c9, c9, c9, trivial⟩, trivial⟩
  ·
   have h1 := of_decide_eq_false r1
   try simp only [ty] at h1
   have hx : prX n ps p m < 0 := by
    have : prX n ps p m = -1 := tv (p := (fun a : Int × List Rw => a5u n a.2)) fun j hj => hI j (by omega)
    omega
   refine al ?_; refine sx7 ?_; (iterate 2 refine qy ?_); refine a6 ?_; refine am ?_; refine ⟨.inr rfl, ?_⟩
   have e1 : prS n ps p m = [] := by
    unfold prS
    rw [if_pos hc, if_pos hx]
   have e2 : prC n ps p m = 11 := by
    unfold prC
    rw [if_pos hc, if_pos hx]
   exact f9 rfl rfl (by rw [e1, e2]; exact ⟨CoC.one (CoP.sl rfl (.inr rfl) (fun _ => rfl) (fun i j hi _ => absurd hi (Nat.not_lt_zero i))), CoC.refl _, trivial⟩)
theorem aue : goodFn Tryz.prog 18 := ⟨Tryz.f18, Tryz.func18, by kernel_rfl, by kernel_rfl⟩
theorem azj (n : Int) (ps : List AS) (p m : List Fd) : ah Tryz.prog 18 [pI n, pP (asl ps), pP (fdl p), pP (fdl m)] (ap [pB (lsB n ps p m), pI (lsC n ps p m)]) := by
 refine ag (nt := 25) af Tryz.func18 rfl rfl l9 ?_; refine sx7 ?_; (iterate 2 refine qy ?_); refine a6 ?_; refine sx7 ?_; (iterate 4 refine qy ?_)
 refine rc rfl rfl rfl rfl rfl rfl aug (aqx n ps p m) (CoL.refl _) rfl rfl ?_; (iterate 5 refine qy ?_); refine a6 ?_; refine a7 ?_; refine sx7 ?_; (iterate 2 refine qy ?_); refine a6 ?_
 refine a8 _ rfl (fun r0 => ?_) (fun r0 => ?_)
 ·
  have h0 := of_decide_eq_true r0
  try simp only [ty] at h0
  refine sx7 ?_; (iterate 2 refine qy ?_); refine a6 ?_; refine am ?_; refine ⟨.inr rfl, ?_⟩
  obtain ⟨e1, e2⟩ := ayh (n := n) (ps := ps) (p := p) (m := m) (by assumption)
  exact f9 rfl rfl (⟨ccb e1.symm, cci e2.symm, trivial⟩)
 ·
  have h0 := of_decide_eq_false r0
  try simp only [ty] at h0
  refine aa ?_; refine sx7 ?_; (iterate 5 refine qy ?_); refine a6 ?_; refine am ?_; refine ⟨.inr rfl, ?_⟩
  obtain ⟨e1, e2⟩ := axk (n := n) (ps := ps) (p := p) (m := m) (by assumption)
  exact f9 rfl rfl (⟨ccb e1, cci e2, trivial⟩)
end Go.Hx
end
section
namespace Go.Hx
inductive Lf (l : List Fd) : AS → AS → Prop
 | leaf {s : AS} : bz l s = false → Lf l s s
 | left {s q : AS} : bz l s = true → Lf l (spA l s) q → Lf l s q
 | right {s q : AS} : bz l s = true → Lf l (spB l s) q → Lf l s q
theorem Lf.iff {l : List Fd} {s q : AS} (h : bz l s = true) : Lf l s q ↔ Lf l (spA l s) q ∨ Lf l (spB l s) q := by
 constructor
 · intro k
   cases k with
   | leaf e => rw [h] at e; cases e
   | left _ k => exact .inl k
   | right _ k => exact .inr k
 · rintro (k | k)
   · exact .left h k
   · exact .right h k
theorem Lf.iff0 {l : List Fd} {s q : AS} (h : bz l s = false) : Lf l s q ↔ q = s := by
 constructor
 · intro k
   cases k with
   | leaf e => rfl
   | left e _ => rw [h] at e; cases e
   | right e _ => rw [h] at e; cases e
 · rintro rfl
   exact .leaf h
def gd (l : List Fd) : Nat → AS → List AS
 | 0, s => [s]
 | k + 1, s => if bz l s = true then gd l k (spA l s) ++ gd l k (spB l s) else [s]
theorem akb {l : List Fd} {k : Nat} {s : AS} (h : bz l s = true) : gd l (k + 1) s = gd l k (spA l s) ++ gd l k (spB l s) := if_pos h
theorem ain {l : List Fd} {k : Nat} {s : AS} (h : bz l s = false) : gd l (k + 1) s = [s] := if_neg (by rw [h]; decide)
theorem a2p (l : List Fd) : ∀ (k : Nat) (s : AS), (gd l k s).length ≤ 2 ^ k
 | 0, s => Nat.le_refl 1
 | k + 1, s => by
  unfold gd
  have h1 := a2p l k (spA l s)
  have h2 := a2p l k (spB l s)
  have h3 : (2 : Nat) ^ (k + 1) = 2 ^ k * 2 := Nat.pow_succ ..
  have h4 : 0 < 2 ^ k := Nat.pow_pos (by decide)
  split
  · rw [List.length_append]; omega
  · show 1 ≤ _
    omega
theorem a34 (l : List Fd) {k : Nat} (hk : k ≤ 8) (s : AS) : (gd l k s).length ≤ 256 := Nat.le_trans (a2p l k s) (Nat.le_trans (Nat.pow_le_pow_right (by decide) hk) (by decide))
theorem a3i {l : List Fd} : ∀ {k : Nat} {s q : AS}, bsz s ≤ k → (q ∈ gd l k s ↔ Lf l s q)
 | 0, s, q, h => by
  have hv : bz l s = false := by
   rw [Bool.eq_false_iff]
   intro e
   obtain ⟨h1, h2, _⟩ := jz e
   have := dh h1 h2
   omega
  rw [Lf.iff0 hv]
  show q ∈ [s] ↔ _
  rw [List.mem_singleton]
 | k + 1, s, q, h => by
  cases hv : bz l s with
  | false => rw [ain hv, Lf.iff0 hv, List.mem_singleton]
  | true =>
   obtain ⟨h1, h2, h3, h4⟩ := jz hv
   have b1 := dh h1 h2
   have b2 := dh h3 h4
   rw [akb hv, List.mem_append, a3i (by omega), a3i (by omega), Lf.iff hv]
theorem alk {l : List Fd} {q : AS} : ∀ (f : Nat) (todo out : List AS), dq todo < f → (q ∈ kr l f todo out ↔ q ∈ out ∨ ∃ s, s ∈ todo ∧ Lf l s q) := by
 intro f
 induction f with
 | zero => intro _ _ h; exact absurd h (Nat.not_lt_zero _)
 | succ f ih =>
  intro todo out hm
  unfold kr
  by_cases h0 : todo.length = 0
  · rw [if_pos h0]
    have : todo = [] := List.length_eq_zero_iff.1 h0
    subst this
    simp
  · rw [if_neg h0]
    have hlast := ni (todo := todo) (by omega)
    have hms := iw (todo.take (todo.length - 1)) [todo.getD (todo.length - 1) default]
    rw [← hlast] at hms
    have hone : dq [todo.getD (todo.length - 1) default] = 3 ^ bsz (todo.getD (todo.length - 1) default) := by unfold dq; simp
    have hp1 : 0 < 3 ^ bsz (todo.getD (todo.length - 1) default) := Nat.pow_pos (by decide)
    have hsplit : (∃ s, s ∈ todo ∧ Lf l s q) ↔ (∃ s, s ∈ todo.take (todo.length - 1) ∧ Lf l s q) ∨ Lf l (todo.getD (todo.length - 1) default) q := by
     conv => lhs; rw [hlast]
     constructor
     · rintro ⟨s, hs, hl⟩
       rcases List.mem_append.1 hs with hs | hs
       · exact .inl ⟨s, hs, hl⟩
       · rw [List.mem_singleton.1 hs] at hl
         exact .inr hl
     · rintro (⟨s, hs, hl⟩ | hl)
       · exact ⟨s, List.mem_append_left _ hs, hl⟩
       · exact ⟨_, List.mem_append_right _ (List.mem_singleton.2 rfl), hl⟩
    rw [hsplit]
    by_cases hv : bz l (todo.getD (todo.length - 1) default) = true
    · rw [if_pos hv]
      obtain ⟨s1, s2, s3, s4⟩ := jz hv
      have b1 := dh s1 s2
      have b2 := dh s3 s4
      have hm2 : dq (todo.take (todo.length - 1) ++ [spA l (todo.getD (todo.length - 1) default), spB l (todo.getD (todo.length - 1) default)]) < f := by
       rw [iw]
       have e2 : dq [spA l (todo.getD (todo.length - 1) default), spB l (todo.getD (todo.length - 1) default)] = 3 ^ bsz (spA l (todo.getD (todo.length - 1) default)) + 3 ^ bsz (spB l (todo.getD (todo.length - 1) default)) := by unfold dq; simp
       obtain ⟨k, hk⟩ : ∃ k, bsz (todo.getD (todo.length - 1) default) = k + 1 := ⟨bsz (todo.getD (todo.length - 1) default) - 1, by omega⟩
       have p1 : 3 ^ bsz (spA l (todo.getD (todo.length - 1) default)) ≤ 3 ^ k := Nat.pow_le_pow_right (by decide) (by omega)
       have p2 : 3 ^ bsz (spB l (todo.getD (todo.length - 1) default)) ≤ 3 ^ k := Nat.pow_le_pow_right (by decide) (by omega)
       have p3 : (3 : Nat) ^ (k + 1) = 3 ^ k * 3 := Nat.pow_succ ..
       have p4 : 0 < 3 ^ k := Nat.pow_pos (by decide)
       rw [hk] at hone
       omega
      rw [ih _ _ hm2, Lf.iff hv]
      constructor
      · rintro (h | ⟨s, hs, hl⟩)
        · exact .inl h
        · rcases List.mem_append.1 hs with hs | hs
          · exact .inr (.inl ⟨s, hs, hl⟩)
          · simp only [List.mem_cons, List.not_mem_nil, or_false] at hs
            rcases hs with rfl | rfl
            · exact .inr (.inr (.inl hl))
            · exact .inr (.inr (.inr hl))
      · rintro (h | ⟨s, hs, hl⟩ | h | h)
        · exact .inl h
        · exact .inr ⟨s, List.mem_append_left _ hs, hl⟩
        · exact .inr ⟨_, List.mem_append_right _ (by simp), h⟩
        · exact .inr ⟨_, List.mem_append_right _ (List.mem_cons_of_mem _ (by simp)), h⟩
    · have hv := Bool.eq_false_iff.2 hv
      rw [if_neg (by rw [hv]; decide), ih _ _ (by omega), Lf.iff0 hv, List.mem_append, List.mem_singleton]
      constructor
      · rintro ((h | h) | h)
        · exact .inl h
        · exact .inr (.inr h)
        · exact .inr (.inl h)
      · rintro (h | h | h)
        · exact .inl (.inl h)
        · exact .inr h
        · exact .inl (.inr h)
theorem afv {a b : List AS} (h : ∀ q, q ∈ a ↔ q ∈ b) : db a = db b := ke (a7r a) (a7r b) fun q => by
 rw [xg, xg, h]
 exact ⟨fun k => ⟨k.1, fun y hy => k.2 y ((h y).2 hy)⟩, fun k => ⟨k.1, fun y hy => k.2 y ((h y).1 hy)⟩⟩
theorem ase {n : Int} {l : List Fd} (h8 : d7 n l 8 = 0) : db (gd l 8 (bf n)) = jx n l := by
 rw [a4j h8]
 refine afv fun q => ?_
 rw [a3i (a3g (jn h8).2 (by decide))]
 show _ ↔ q ∈ kr l 6562 [bf n] []
 rw [alk 6562 _ _ (xv h8).2.1]
 simp
theorem axp {l : List Fd} {k : Nat} {s : AS} (h : bz l s = false) : gd l k s = [s] := by
 cases k with
 | zero => rfl
 | succ k => exact ain h
theorem agp {n : Int} {l : List Fd} {ps : List AS} (h : ¬ lsC n ps l [] = 0 ∨ lsB n ps l [] = false) : pb n l ps = false := by
 have : lsB n ps l [] = false := by
  rcases h with h | h
  · unfold lsB; rw [decide_eq_false h]; rfl
  · exact h
 unfold pb
 rw [this]
 rfl
theorem az1 {n : Int} {l : List Fd} {ps : List AS} (h : lsB n ps l [] = true) : (!ps.any (bz l)) = pb n l ps := by
 unfold pb
 rw [h]
 rfl
theorem aeo {f : AS → Bool} {ps : List AS} {i : Nat} (h : i < ps.length) : (ps.take (i + 1)).all f = ((ps.take i).all f && f (ps.getD i default)) := by
 rw [ci h, List.all_append]
 simp
theorem avq {n : Int} {l : List Fd} {ps : List AS} : (lsB n ps l [] && (ps.take ps.length).all fun s => !bz l s) = pb n l ps := by
 unfold pb
 rw [List.take_length, List.not_any_eq_all_not]
theorem ap8 {s : Nat} {f : Nat → Nat → PV} : CoC (.one (.sl 0 s true f)) (pP (fdl [])) := CoC.one (CoP.sl rfl (.inr rfl) (fun h => by cases h) fun i j hi _ => absurd hi (Nat.not_lt_zero i))
end Go.Hx
end
section
namespace Go.Hx
open Go.Proofs
set_option maxRecDepth 100000
set_option maxHeartbeats 1000000
theorem aw7 : goodFn Tryz.prog 66 := ⟨Tryz.f66, Tryz.func66, by kernel_rfl, by kernel_rfl⟩
theorem ay1 (s : AS) (l : List Fd) : ah Tryz.prog 66 [pA s, pP (bx (fdl l))] (ap [pB (bz l s)]) := by
 refine ag (nt := 13) af Tryz.func66 rfl rfl l9 ?_; refine sx7 ?_; refine qy ?_; refine a6 ?_; refine sx7 ?_; (iterate 2 refine qy ?_); refine rc rfl rfl rfl rfl rfl rfl a4w (a8r l s) (CoL.refl _) rfl rfl ?_
 (iterate 3 refine qy ?_); refine m9 0 ?_; refine s9 ?_; refine qy ?_; refine a6 ?_; refine sx7 ?_; (iterate 2 refine qy ?_); refine a6 ?_
 exact hx8 rfl rfl rfl (CoL.refl _)
theorem aua : goodFn Tryz.prog 33 := ⟨Tryz.f33, Tryz.func33, by kernel_rfl, by kernel_rfl⟩
theorem azh (n : Int) (l : List Fd) (ps : List AS) : ah Tryz.prog 33 [pI n, pP (fdl l), pP (asl ps)] (ap [pB (pb n l ps), pI (lsC n ps l [])]) := by
 refine ag (nt := 28) af Tryz.func33 rfl rfl l9 ?_; refine sx7 ?_; refine m9 0 ?_; (iterate 2 refine qy ?_); refine a6 ?_; refine sx7 ?_; (iterate 3 refine qy ?_)
 refine rc rfl rfl rfl rfl rfl rfl avl (aze n ps l []) (⟨CoC.refl _, CoC.refl _, CoC.refl _, ap8, trivial⟩) rfl rfl ?_; (iterate 5 refine qy ?_); refine a6 ?_; refine a7 ?_; refine sx7 ?_; (iterate 3 refine qy ?_)
 refine bg rfl rfl (fun r0 => ?_) (fun r0 => ?_)
 ·
  have h0 := r0
  have h0 := of_decide_eq_false (ay h0)
  try simp only [ty] at h0
  (iterate 2 refine k9 (gtf r0) ?_); refine rq rfl rfl rfl rfl rfl ?_ (hp := r0); refine a6 ?_; refine a8 _ rfl (fun _ => ?_) (fun e => by cases e); refine sx7 ?_; (iterate 3 refine qy ?_); refine a6 ?_
  exact hx8 rfl rfl rfl (⟨ccb (agp (by first | exact .inl (by assumption) | exact .inr (by simp_all))).symm, CoC.refl _, trivial⟩)
 ·
  have h0 := r0
  have h0 := of_decide_eq_true (ax h0)
  try simp only [ty] at h0
  (iterate 2 refine qy ?_ (hg := (gff r0))); refine qy ?_; refine a6 ?_; refine a8 _ rfl (fun r1 => ?_) (fun r1 => ?_)
  ·
   have h1 := r1
   have h1 := bp r0 h1
   have h1 := ay h1
   refine sx7 ?_; (iterate 3 refine qy ?_); refine a6 ?_
   exact hx8 rfl rfl rfl (⟨ccb (agp (by first | exact .inl (by assumption) | exact .inr (by simp_all))).symm, CoC.refl _, trivial⟩)
  ·
   have h1 := r1
   have h1 := bp r0 h1
   have h1 := ax h1
   refine aa ?_; refine a7 ?_; refine d1 4 rfl rfl rfl ?_; refine gy ?_; (iterate 2 refine qy ?_)
   refine rc rfl rfl rfl rfl rfl rfl aa7 (ag9 ps 66 1 (fun i => [bx (fdl l)].getD i .any) (bz l) aw7 (fun s => ay1 s l)) (CoL.refl _) rfl rfl ?_; (iterate 3 refine qy ?_); refine a6 ?_
   exact hx8 rfl rfl rfl (⟨ccb (az1 (by simp_all)), cci (by symm; assumption), trivial⟩)
theorem a9w : goodFn Tryz.prog 64 := ⟨Tryz.f64, Tryz.func64, by kernel_rfl, by kernel_rfl⟩
theorem ap2 (l : List Fd) (k : Nat) (s : AS) (hv : bz l s = false) : cz Tryz.prog 64 [.one (.p (fdl l)), .one (.p (asC s))] [] (.v (.one (.ref 909 (gd l k s).length))) [(909, .arr true 1 38 (gd l k s).length (lf sC (gd l k s)))] [] := by
 refine ek (nt := 31) af Tryz.func64 rfl rfl l9 rfl ?_; refine sx7 ?_; refine qy ?_; refine a6 ?_; refine sx7 ?_; (iterate 2 refine qy ?_); refine rc rfl rfl rfl rfl rfl rfl a6x (abz l s) (CoL.refl _) rfl rfl ?_
 (iterate 3 refine qy ?_); refine m9 0 ?_; refine s9 ?_; refine qy ?_; refine a6 ?_; refine a7 ?_; refine sx7 ?_; (iterate 2 refine qy ?_); refine a6 ?_; refine a8 _ rfl (fun r0 => ?_) (fun r0 => ?_)
 ·
  have h0 := r0
  have h0 := ay h0
  refine sx7 ?_; refine qy ?_; refine m9 1 ?_; refine qy ?_; refine a6 ?_; refine nk 4 909 rfl rfl rfl rfl ?_; refine am ?_; refine ⟨.inr rfl, ?_⟩
  have he := axp (k := k) hv
  exact ⟨_, _, rfl, (by (repeat' apply And.intro) <;> first | trivial | exact Nat.le_of_ble_eq_true rfl), (by rw [he]; exact CoR.refl _), ⟨⟨_, rfl, (by rw [he]; exact xq (CoP.refl _))⟩, trivial⟩⟩
 ·
  have h0 := r0
  have h0 := ax h0
  exfalso
  rw [hv] at r0
  exact absurd r0 (by decide)
theorem ayw (l : List Fd) (k : Nat) (hk : k ≤ 8) (IH : ∀ s, bsz s ≤ k → cz Tryz.prog 64 [.one (.p (fdl l)), .one (.p (asC s))] [] (.v (.one (.ref 900 (gd l k s).length))) [(900, .arr true 1 38 (gd l k s).length (lf sC (gd l k s)))] []) (s : AS) (hs : bsz s ≤ k + 1) (hv : bz l s = true) : cz Tryz.prog 64 [.one (.p (fdl l)), .one (.p (asC s))] [] (.v (.one (.ref 909 (gd l (k + 1) s).length))) [(909, .arr true 1 38 (gd l (k + 1) s).length (lf sC (gd l (k + 1) s)))] [] := by
 refine ek (nt := 31) af Tryz.func64 rfl rfl l9 rfl ?_
 obtain ⟨s1, s2, s3, s4⟩ := jz hv
 have b1 := dh s1 s2
 have b2 := dh s3 s4
 have hla := a34 l hk (spA l s)
 have hlb := a34 l hk (spB l s)
 refine sx7 ?_; refine qy ?_; refine a6 ?_; refine sx7 ?_; (iterate 2 refine qy ?_); refine rc rfl rfl rfl rfl rfl rfl a6x (abz l s) (CoL.refl _) rfl rfl ?_; (iterate 3 refine qy ?_); refine m9 0 ?_; refine s9 ?_
 refine qy ?_; refine a6 ?_; refine a7 ?_; refine sx7 ?_; (iterate 2 refine qy ?_); refine a6 ?_; refine a8 _ rfl (fun r0 => ?_) (fun r0 => ?_)
 ·
  have h0 := r0
  have h0 := ay h0
  exfalso
  rw [hv] at r0
  exact absurd r0 (by decide)
 ·
  have h0 := r0
  have h0 := ax h0
  refine aa ?_; refine a7 ?_; refine aw (E := b4) af aq [0, 1, 2, 3, 4, 5, 6, 7, 8, 9, 10, 11, 12, 13, 14] ?_; (iterate 6 refine qy ?_)
  refine bw rfl rfl rfl rfl rfl rfl a9w ((IH (spA l s) (by omega))) (⟨CoP.refl _, CoP.of_eq (congrArg (fun z => PV.raw (.int .u32 z)) (by rw [bOr]; rfl)), trivial⟩) trivial rfl rfl ?_; (iterate 5 refine qy ?_)
  refine rc rfl rfl rfl rfl rfl rfl a9w (cz.pure (args := [pP (fdl l), pA (spB l s)]) (l := [.one (.ref 900 (gd l k (spB l s)).length)]) (IH (spB l s) (by omega)) rfl ⟨rfl, trivial⟩) (⟨CoC.refl _, cci (by rw [a3n]; rfl), trivial⟩) rfl rfl ?_
  refine ra 1 true rfl rfl rfl rfl rfl rfl ?_; refine qy ?_; refine a6 ?_; refine ⟨by kernel_rfl, ?_⟩; refine nk 4 909 rfl rfl rfl rfl ?_; refine am ?_; refine ⟨.inr rfl, ?_⟩
  have he := akb (k := k) hv
  exact ⟨_, _, rfl, (by (repeat' apply And.intro) <;> first | trivial | exact Nat.le_of_ble_eq_true rfl), (by rw [he, List.length_append]; exact CoR.refl _), ⟨⟨_, rfl, (by rw [he]; exact ac2 _ (fun h => h) rfl (fun i j hi hj => CoP.refl _))⟩, trivial⟩⟩
theorem ap5 (l : List Fd) : ∀ (k : Nat), k ≤ 8 → ∀ s, bsz s ≤ k → cz Tryz.prog 64 [.one (.p (fdl l)), .one (.p (asC s))] [] (.v (.one (.ref 900 (gd l k s).length))) [(900, .arr true 1 38 (gd l k s).length (lf sC (gd l k s)))] []
 | 0, _, s, hs => by
  have hv : bz l s = false := by
   rw [Bool.eq_false_iff]
   intro e
   obtain ⟨h1, h2, _⟩ := jz e
   have := dh h1 h2
   omega
  exact (ap2 l 0 s hv).swap 909 900
 | k + 1, hk, s, hs => by
  cases hv : bz l s with
  | false => exact (ap2 l (k + 1) s hv).swap 909 900
  | true => exact (ayw l k (by omega) (ap5 l k (by omega)) s hs hv).swap 909 900
theorem ayt (l : List Fd) (s : AS) (hs : bsz s ≤ 8) : ah Tryz.prog 64 [pP (fdl l), pA s] (ap [pP (asl (gd l 8 s))]) :=
 cz.pure (args := [pP (fdl l), pA s]) (l := [.one (.ref 900 (gd l 8 s).length)]) (ap5 l 8 (Nat.le_refl _) s hs) rfl ⟨rfl, trivial⟩
theorem avm : goodFn Tryz.prog 31 := ⟨Tryz.f31, Tryz.func31, by kernel_rfl, by kernel_rfl⟩
theorem ayd (n : Int) (l : List Fd) : ah Tryz.prog 31 [pI n, pP (fdl l)] (ap [pP (asl (jx n l)), pI (d7 n l 8)]) := by
 refine ag (nt := 18) af Tryz.func31 rfl rfl l9 ?_; refine sx7 ?_; (iterate 2 refine qy ?_); refine a6 ?_; refine a7 ?_; refine sx7 ?_; (iterate 2 refine qy ?_)
 refine rc rfl rfl rfl rfl rfl rfl auc (az9 n l 8) (CoL.refl _) rfl rfl ?_; refine qy ?_; refine a6 ?_; refine sx7 ?_; (iterate 2 refine qy ?_); refine a6 ?_; refine a8 _ rfl (fun r0 => ?_) (fun r0 => ?_)
 ·
  have h0 := r0
  have h0 := of_decide_eq_false (ay h0)
  try simp only [ty] at h0
  refine sx7 ?_; (iterate 3 refine qy ?_); refine a6 ?_; refine am ?_; refine ⟨.inr rfl, ?_⟩
  have he := ajf (by assumption : ¬ d7 n l 8 = 0)
  exact f9 rfl rfl (⟨(by rw [he]; exact CoC.one (CoP.sl rfl (.inr rfl) (fun h => by cases h) fun i j hi _ => absurd hi (Nat.not_lt_zero i))), CoC.refl _, trivial⟩)
 ·
  have h0 := r0
  have h0 := of_decide_eq_true (ax h0)
  try simp only [ty] at h0
  have he8 : d7 n l 8 = 0 := by assumption
  refine aa ?_; refine sx7 ?_; (iterate 2 refine qy ?_); refine rc rfl rfl rfl rfl rfl rfl vc (vo n) (CoL.refl _) rfl rfl ?_
  refine rc rfl rfl rfl rfl rfl rfl a9w (ayt l (bf n) (a3g (jn he8).2 (by decide))) (CoL.refl _) rfl rfl ?_
  refine rc rfl rfl rfl rfl rfl rfl aw1 (ai1 (gd l 8 (bf n)) (Nat.le_trans (a34 l (Nat.le_refl 8) _) (by decide))) (CoL.refl _) rfl rfl ?_; (iterate 2 refine qy ?_); refine a6 ?_
  exact hx8 rfl rfl rfl (⟨(by rw [← ase he8]; exact CoC.refl _), cci he8.symm, trivial⟩)
theorem aww : goodFn Tryz.prog 34 := ⟨Tryz.f34, Tryz.func34, by kernel_rfl, by kernel_rfl⟩
theorem aye (n : Int) (l : List Fd) (ps : List AS) : ah Tryz.prog 34 [pI n, pP (fdl l), pP (asl ps)] (ap [pB (pb n l ps), pI (lsC n ps l [])]) := by
 refine ag (nt := 37) af Tryz.func34 rfl rfl l9 ?_; refine sx7 ?_; (iterate 2 refine qy ?_); refine a6 ?_; refine sx7 ?_; (iterate 3 refine qy ?_)
 refine rc rfl rfl rfl rfl rfl rfl aue (azj n ps l []) (⟨CoC.refl _, CoC.refl _, CoC.refl _, ap8, trivial⟩) rfl rfl ?_; (iterate 5 refine qy ?_); refine a6 ?_; refine a7 ?_; refine sx7 ?_; (iterate 2 refine qy ?_)
 refine a6 ?_; refine a8 _ rfl (fun r0 => ?_) (fun r0 => ?_)
 ·
  have h0 := r0
  have h0 := of_decide_eq_false (ay h0)
  try simp only [ty] at h0
  refine sx7 ?_; (iterate 3 refine qy ?_); refine a6 ?_
  exact hx8 rfl rfl rfl (⟨ccb (agp (.inl (by assumption))).symm, CoC.refl _, trivial⟩)
 ·
  have h0 := r0
  have h0 := of_decide_eq_true (ax h0)
  try simp only [ty] at h0
  have hc0 : lsC n ps l [] = 0 := by assumption
  refine aa ?_; (iterate 2 refine a7 ?_)
  refine cj 2 rfl fun hn => ?_
  refine gy ?_; refine qy ?_; refine a6 ?_; refine ae ?_
  refine aj (ι := Nat) ⟨[(1, some _), (2, some _)], []⟩ ⟨⟨c9, c9, trivial⟩, trivial⟩ (fun i => ⟨[(8, some (vB (lsB n ps l [] && (ps.take i).all (fun s => !bz l s)))), (10, some (vI i))], []⟩) (fun i => i ≤ ps.length) (fun i => ps.length - i) (0) (Nat.zero_le _) ⟨⟨⟨_, rfl, (cob (by simp))⟩, zy, trivial⟩, trivial⟩ ?_
  rintro i hi
  refine a7 ?_; refine sx7 ?_; (iterate 4 refine qy ?_); refine a6 ?_; refine a8 _ rfl (fun r1 => ?_) (fun r1 => ?_)
  ·
   have h1 := of_decide_eq_true r1
   try simp only [ty] at h1
   refine aa ?_; refine a7 ?_; refine ae ?_; refine gy ?_; (iterate 2 refine qy ?_); refine bg rfl rfl (fun r2 => ?_) (fun r2 => ?_)
   ·
    have h2 := r2
    (iterate 5 refine qy ?_ (hg := (gtt r2))); refine rc rfl rfl rfl rfl rfl rfl awj (aup l (ps.getD i default)) (CoL.refl _) rfl (gtt r2) ?_; (iterate 2 refine qy ?_); refine a6 ?_; refine gy ?_
    (iterate 3 refine qy ?_); refine a6 ?_; refine ⟨i + 1, ?_, ?_, ?_⟩
    · show i + 1 ≤ _; omega
    · first | omega | (dsimp only; omega)
    · exact ⟨⟨⟨_, rfl, (cob (by rw [aeo (by omega), ← Bool.and_assoc]; first | (rw [(by assumption : (lsB n ps l [] && (ps.take i).all (fun s => !bz l s)) = true)]; rfl) | (rw [(by assumption : (lsB n ps l [] && (ps.take i).all (fun s => !bz l s)) = false)]; rfl) | (cases (lsB n ps l [] && (ps.take i).all (fun s => !bz l s)) <;> rfl)))⟩, zy, c9, c9, trivial⟩, trivial⟩
   ·
    have h2 := r2
    (iterate 6 refine k9 (gft r2) ?_); refine rq rfl rfl rfl rfl rfl ?_ (hp := r2); refine qy ?_; refine a6 ?_; refine gy ?_; (iterate 3 refine qy ?_); refine a6 ?_; refine ⟨i + 1, ?_, ?_, ?_⟩
    · show i + 1 ≤ _; omega
    · first | omega | (dsimp only; omega)
    · exact ⟨⟨⟨_, rfl, (cob (by rw [aeo (by omega), ← Bool.and_assoc]; first | (rw [(by assumption : (lsB n ps l [] && (ps.take i).all (fun s => !bz l s)) = true)]; rfl) | (rw [(by assumption : (lsB n ps l [] && (ps.take i).all (fun s => !bz l s)) = false)]; rfl) | (cases (lsB n ps l [] && (ps.take i).all (fun s => !bz l s)) <;> rfl)))⟩, zy, c9, c9, trivial⟩, trivial⟩
  ·
   have h1 := of_decide_eq_false r1
   try simp only [ty] at h1
   obtain rfl : i = ps.length := by omega
   refine al ?_; refine sx7 ?_; (iterate 3 refine qy ?_); refine a6 ?_
   exact hx8 rfl rfl rfl (⟨ccb avq, cci hc0.symm, trivial⟩)
end Go.Hx
end
