/- A part of the proof: Y2 Y3 Bz5 Rb25 Ch15. -/
import Derived.Test.YtidophngianjiaaGreatDoor5x16
import Derived.Test.YtidophngianjiaaGreatDoor5x19
import Derived.Test.YtidophngianjiaaGreatDoor5x20
import Derived.Test.YtidophngianjiaaGreatDoor5x27
import Derived.Test.YtidophngianjiaaGreatDoor5x28
import Derived.Test.YtidophngianjiaaGreatDoor5x29
set_option linter.all false
section
namespace Go.Hx
open Go.Proofs
set_option maxRecDepth 100000
set_option maxHeartbeats 1000000
theorem aol : goodFn Tryz.prog 15 := ⟨Tryz.f15, Tryz.func15, by kernel_rfl, by kernel_rfl⟩
theorem aoi (n : Nat) (c : Bool) (f : Nat → Nat → PV) (hn : n ≤ 17592186044416) :
 eg Tryz.prog 15 [.one (.p (.sl n 2 c f))] [] (.v (.one (.ref 0 n))) [(0, .arr true 2 42 n f)] [] := by
 refine jb (nt := 8) ah Tryz.func15 rfl rfl l9 rfl ?_; refine sx7 ?_; refine bv true rfl rfl rfl rfl rfl trivial ?_; refine a6 ?_
 refine wq (ι := Bool) (fun c => ⟨[(0, some (bf (.sl n 2 c f)))], []⟩) (fun _ => True) ?_ fun c _ => ?_
 · rcases Nat.eq_zero_or_pos n with hz | h0
   · subst hz
     refine hw_exact' 0 rfl fun ad cap hcap => ?_
     refine sx7 ?_; (iterate 2 refine bv true rfl rfl rfl rfl rfl trivial ?_); refine a6 ?_; refine a8 ad.isNone rfl (fun hc => ?_) (fun hc => ?_)
     · refine sx7 ?_
       refine bv true rfl rfl rfl rfl rfl trivial ?_; refine a6 ?_; refine gf 2 0 true 2 42 f (by decide) rfl (CoP.sl rfl (.inr rfl) (fun h => h) fun i j hi _ => absurd hi (Nat.not_lt_zero i)) (.inr rfl) rfl ?_
       refine bi ?_; refine ⟨.inr rfl, ?_⟩
       exact ⟨_, _, rfl, trivial, CoR.refl _, ⟨u9, trivial⟩⟩
     · refine aa ?_
       exact ⟨false, trivial, ⟨⟨_, rfl, CoP.raw_sl hcap⟩, trivial⟩, trivial⟩
   · refine sx7 ?_
     refine bv true rfl rfl rfl rfl rfl trivial ?_; refine bv true rfl rfl rfl rfl rfl h0 ?_; refine a6 ?_; refine a8 false rfl (fun hc => by cases hc) (fun hc => ?_); refine aa ?_
     exact ⟨c, trivial, ⟨c9, trivial⟩, trivial⟩
 · refine sx7 ?_
   refine s5 0 rfl rfl rfl rfl rfl rfl trivial ?_; refine bv true rfl rfl rfl rfl rfl trivial ?_
   refine a01 0 true rfl rfl rfl rfl rfl rfl ⟨trivial, rfl, rfl, rfl, .inl rfl, by show 0 + n ≤ 9223372036854775807; omega, by show (0 + n) * 8 ≤ 140737488355328; omega, fun _ => .inl rfl⟩ ?_
   refine bv true rfl rfl rfl rfl rfl trivial ?_; refine a6 ?_; refine bi ?_; refine ⟨.inr rfl, ?_⟩
   refine ⟨_, _, rfl, trivial, CoR.of_eq (by show HR.v (.one (.ref 0 (0 + n))) = _; rw [Nat.zero_add]), ⟨⟨_, rfl, ?_⟩, trivial⟩⟩
   exact ⟨fun h => h, rfl, rfl, (Nat.zero_add n).symm, fun i j _ _ => CoP.of_eq (by simp [ej])⟩
theorem a90 : goodFn Tryz.prog 107 := ⟨Tryz.f107, Tryz.func107, by kernel_rfl, by kernel_rfl⟩
theorem a7u (n : Int) (l m : List Fd) (x : AS) : ai Tryz.prog 107 [pI n, pP (fdl l), pP (fdl m), pA x] (al [pI (ckB n l m x)]) := by
 refine aj (nt := 21) ah Tryz.func107 rfl rfl l9 ?_; refine sx7 ?_; refine qy ?_; refine a6 ?_; refine a7 ?_; refine sx7 ?_; (iterate 3 refine qy ?_)
 refine rc rfl rfl rfl rfl rfl rfl zw (w6 n l m) (CoL.refl _) rfl rfl ?_; refine qy ?_; refine a6 ?_; refine sx7 ?_; (iterate 2 refine qy ?_); refine a6 ?_; refine a8 _ rfl (fun r0 => ?_) (fun r0 => ?_)
 ·
  have h0 := r0
  have h0 := of_decide_eq_false (b8 h0)
  try simp only [ty] at h0
  refine sx7 ?_; (iterate 2 refine qy ?_); refine a6 ?_
  exact hx8 rfl rfl rfl (⟨cci (aa4 (by assumption)).symm, trivial⟩)
 ·
  have h0 := r0
  have h0 := of_decide_eq_true (b7 h0)
  try simp only [ty] at h0
  have hb : cj n l m = 0 := h0
  obtain ⟨hn0, hn1, _⟩ := ng hb
  refine aa ?_; refine a7 ?_; refine sx7 ?_; (iterate 2 refine qy ?_); refine rq rfl rfl rfl rfl rfl ?_ (hp := hn0); refine qy ?_; refine a6 ?_; refine a8 _ rfl (fun r1 => ?_) (fun r1 => ?_)
  ·
   have h1 := r1
   have h1 := of_decide_eq_false (b8 h1)
   try simp only [ty] at h1
   refine sx7 ?_; refine qy ?_; refine a6 ?_
   exact hx8 rfl rfl rfl (⟨cci (aii hb (fun e => (by assumption : ¬ _ = _) ((pf x n.toNat).trans (congrArg asI e)))).symm, trivial⟩)
  ·
   have h1 := r1
   have h1 := of_decide_eq_true (b7 h1)
   try simp only [ty] at h1
   refine aa ?_; refine sx7 ?_; refine qy ?_; refine a6 ?_
   exact hx8 rfl rfl rfl (⟨cci (vr hb (dp.1 ((pf x n.toNat).symm.trans (by assumption)))).symm, trivial⟩)
theorem a94 : goodFn Tryz.prog 109 := ⟨Tryz.f109, Tryz.func109, by kernel_rfl, by kernel_rfl⟩
theorem ait (l m : List Fd) (hl : l.length ≤ 64) (hm : m.length ≤ 64) : ai Tryz.prog 109 [pP (fdl l), pP (fdl m)] (al [pP (fdl (ov l m))]) := by
 refine aj (nt := 37) ah Tryz.func109 rfl rfl l9 ?_; refine sx7 ?_; refine qy ?_; refine a6 ?_; refine sx7 ?_; refine qy ?_
 refine d5 rfl rfl rfl rfl rfl rfl aol ((aoi m.length false (lf Fd.c m) (by omega)).swap 0 900) (ek.refl _) trivial rfl rfl ?_; refine qy ?_; refine a6 ?_; refine a7 ?_; refine sx7 ?_
 (iterate 3 refine qy ?_); refine a6 ?_; refine ab ?_
 refine ao (ι := Nat) ⟨[(12, some _), (13, some _)], []⟩ ⟨⟨c9, c9, trivial⟩, trivial⟩ (fun i => ⟨[(5, some (.v (.one (.ref 900 (fq l m i 0).length)))), (14, some (vI i))], [(900, some (.arr true 2 42 (fq l m i 0).length (lf Fd.c (fq l m i 0))))]⟩) (fun i => i ≤ l.length) (fun i => l.length - i) (0) (Nat.zero_le _) ⟨⟨⟨_, rfl, (dz (a2y l m))⟩, ⟨_, rfl, (CoR.refl _)⟩, trivial⟩, ⟨⟨_, rfl, (du (a2y l m))⟩, trivial⟩⟩ ?_
 rintro i hi
 have hmb := a6c (l.getD i default).rhs
 refine sx7 ?_; refine qy ?_; refine a6 ?_; refine a7 ?_; refine a8 _ rfl (fun r0 => ?_) (fun r0 => ?_)
 ·
  have h0 := of_decide_eq_true r0
  try simp only [ty] at h0
  refine aa ?_; refine a7 ?_; refine ab ?_; refine sx7 ?_; (iterate 2 refine qy ?_); refine m9 0 ?_; refine s9 ?_; refine a6 ?_; refine sx7 ?_; (iterate 2 refine qy ?_)
  refine rc rfl rfl rfl rfl rfl rfl a8i (aok (l.getD i default).rhs) (CoL.refl _) rfl rfl ?_; (iterate 2 refine qy ?_); refine a6 ?_; refine ab ?_
  refine ao (ι := Nat) ⟨[(7, some _), (12, some _), (13, some _), (14, some _), (20, some _), (21, some _)], [(0, some _)]⟩ ⟨⟨c9, c9, c9, c9, c9, c9, trivial⟩, ⟨u9, trivial⟩⟩ (fun k => ⟨[(5, some (.v (.one (.ref 900 (fq l m i k).length)))), (22, some (vI k))], [(900, some (.arr true 2 42 (fq l m i k).length (lf Fd.c (fq l m i k))))]⟩) (fun k => k ≤ (aw (l.getD i default).rhs).length) (fun k => (aw (l.getD i default).rhs).length - k) (0) (Nat.zero_le _) ⟨⟨zy, ⟨_, rfl, (CoR.refl _)⟩, trivial⟩, ⟨u9, trivial⟩⟩ ?_
  rintro k hk
  have hal := agz (fs := l) (ms := m) (i := i) (k := k)
  refine sx7 ?_; refine qy ?_; refine a6 ?_; refine a7 ?_; refine a8 _ rfl (fun r1 => ?_) (fun r1 => ?_)
  ·
   have h1 := of_decide_eq_true r1
   try simp only [ty] at h1
   refine aa ?_; refine a7 ?_; refine ab ?_; refine sx7 ?_; (iterate 3 refine qy ?_); refine a6 ?_; refine br (E := c6) ah bh [0, 1, 2, 3, 4, 5, 6, 7, 8] ?_; (iterate 6 refine qy ?_)
   refine m9 1 ?_; refine ra 2 true rfl rfl rfl rfl rfl rfl ?_; refine qy ?_; refine a6 ?_; refine ⟨by kernel_rfl, ?_⟩; refine gy ?_; (iterate 2 refine qy ?_); refine a6 ?_; refine ⟨k + 1, ?_, ?_, ?_⟩
   · show k + 1 ≤ _; omega
   · first | omega | (dsimp only; omega)
   · exact ⟨⟨⟨_, rfl, (fv (a95 (by omega)))⟩, zy, c9, c9, c9, c9, c9, c9, trivial⟩, ⟨⟨_, rfl, (yb (a95 (by omega)) (CoP.refl _) (CoP.of_eq (congrArg (fun z => PV.raw (.int .u32 z)) (agh 1 _))))⟩, u9, trivial⟩⟩
  ·
   have h1 := of_decide_eq_false r1
   try simp only [ty] at h1
   obtain rfl : k = (aw (l.getD i default).rhs).length := by omega
   refine ar ?_; refine gy ?_; (iterate 2 refine qy ?_); refine a6 ?_; refine ⟨i + 1, ?_, ?_, ?_⟩
   · show i + 1 ≤ _; omega
   · first | omega | (dsimp only; omega)
   · exact ⟨⟨⟨_, rfl, (dz (a8j (by omega)))⟩, zy, c9, c9, trivial⟩, ⟨⟨_, rfl, (du (a8j (by omega)))⟩, trivial⟩⟩
 ·
  have h0 := of_decide_eq_false r0
  try simp only [ty] at h0
  obtain rfl : i = l.length := by omega
  refine ar ?_; refine sx7 ?_; (iterate 2 refine qy ?_); refine a6 ?_; refine ce 4 rfl rfl rfl ?_
  exact hx8 rfl rfl rfl (⟨CoC.one (CoP.of_eq (by rw [afr]; rfl)), trivial⟩)
theorem amh : goodFn Tryz.prog 55 := ⟨Tryz.f55, Tryz.func55, by kernel_rfl, by kernel_rfl⟩
theorem ak4 (n : Int) (l m : List Fd) (x : AS) : ai Tryz.prog 55 [pI n, pP (fdl l), pP (fdl m), pA x] (al [pP (asl (ai5 n l m x)), pI (ckB n l m x)]) := by
 refine aj (nt := 25) ah Tryz.func55 rfl rfl l9 ?_; refine sx7 ?_; (iterate 2 refine qy ?_); refine a6 ?_; refine a7 ?_; refine sx7 ?_; (iterate 4 refine qy ?_)
 refine rc rfl rfl rfl rfl rfl rfl a90 (a7u n l m x) (CoL.refl _) rfl rfl ?_; refine qy ?_; refine a6 ?_; refine sx7 ?_; (iterate 2 refine qy ?_); refine a6 ?_; refine a8 _ rfl (fun r0 => ?_) (fun r0 => ?_)
 ·
  have h0 := r0
  have h0 := of_decide_eq_false (b8 h0)
  try simp only [ty] at h0
  refine sx7 ?_; (iterate 3 refine qy ?_); refine a6 ?_
  exact hx8 rfl rfl rfl (⟨CoC.one (aag (if_neg (by assumption))), CoC.refl _, trivial⟩)
 ·
  have h0 := r0
  have h0 := of_decide_eq_true (b7 h0)
  try simp only [ty] at h0
  have hz : ckB n l m x = 0 := h0
  have hb := o5 hz
  obtain ⟨hn0, hn1, hl64, _, hm64, _⟩ := ng hb.1
  refine aa ?_; refine sx7 ?_; (iterate 3 refine qy ?_); refine rc rfl rfl rfl rfl rfl rfl a94 (ait l m hl64 hm64) (CoL.refl _) rfl rfl ?_; refine qy ?_
  refine rc rfl rfl rfl rfl rfl rfl a91 (a85 n (ov l m) x hn0 hn1) (CoL.refl _) rfl rfl ?_; (iterate 2 refine qy ?_); refine a6 ?_
  exact hx8 rfl rfl rfl (⟨CoC.one (CoP.of_eq (by rw [show ai5 n l m x = ck n l m x from if_pos hz]; rfl)), cci hz.symm, trivial⟩)
theorem akq : goodFn Tryz.prog 111 := ⟨Tryz.f111, Tryz.func111, by kernel_rfl, by kernel_rfl⟩
theorem ams (f : Fd) (b : AS) : ai Tryz.prog 111 [f.pc, pP (bx (asC b))] (al [pB (vb b f)]) := by
 refine aj (nt := 12) ah Tryz.func111 rfl rfl l9 ?_; refine sx7 ?_; refine m9 0 ?_; refine qy ?_; refine a6 ?_; refine sx7 ?_; (iterate 9 refine qy ?_); refine a6 ?_
 exact hx8 rfl rfl rfl (⟨ccb (by unfold vb; rw [kr, a4r]), trivial⟩)
theorem amk : goodFn Tryz.prog 54 := ⟨Tryz.f54, Tryz.func54, by kernel_rfl, by kernel_rfl⟩
theorem al9 (n : Int) (l m : List Fd) (x : AS) : ai Tryz.prog 54 [pI n, pP (fdl l), pP (fdl m), pA x] (al [pA (aan n l m x), pI (ckB n l m x)]) := by
 refine aj (nt := 45) ah Tryz.func54 rfl rfl l9 ?_; refine sx7 ?_; (iterate 2 refine qy ?_); refine a6 ?_; refine a7 ?_; refine sx7 ?_; (iterate 4 refine qy ?_)
 refine rc rfl rfl rfl rfl rfl rfl a90 (a7u n l m x) (CoL.refl _) rfl rfl ?_; refine qy ?_; refine a6 ?_; refine sx7 ?_; (iterate 2 refine qy ?_); refine a6 ?_; refine a8 _ rfl (fun r0 => ?_) (fun r0 => ?_)
 ·
  have h0 := r0
  have h0 := of_decide_eq_false (b8 h0)
  try simp only [ty] at h0
  refine sx7 ?_; (iterate 3 refine qy ?_); refine a6 ?_
  exact hx8 rfl rfl rfl (⟨cci (congrArg asI (show (0 : AS) = aan n l m x from (if_neg (by assumption)).symm)), CoC.refl _, trivial⟩)
 ·
  have h0 := r0
  have h0 := of_decide_eq_true (b7 h0)
  try simp only [ty] at h0
  have hz : ckB n l m x = 0 := h0
  have hb := o5 hz
  obtain ⟨hn0, hn1, hl64, _, hm64, _⟩ := ng hb.1
  refine aa ?_; refine sx7 ?_; (iterate 2 refine qy ?_); refine a6 ?_; refine a7 ?_; refine sx7 ?_; (iterate 3 refine qy ?_); refine rc rfl rfl rfl rfl rfl rfl a94 (ait l m hl64 hm64) (CoL.refl _) rfl rfl ?_
  refine qy ?_; refine rc rfl rfl rfl rfl rfl rfl a91 (a85 n (ov l m) x hn0 hn1) (CoL.refl _) rfl rfl ?_; (iterate 2 refine qy ?_); refine a6 ?_; refine ab ?_
  have hbl := yg n l m x
  refine ao (ι := Nat) ⟨[(1, some _), (28, some _), (29, some _)], []⟩ ⟨⟨c9, c9, c9, trivial⟩, trivial⟩ (fun i => ⟨[(11, some (vA (o3 l x ((ck n l m x).take i)))), (30, some (vI i))], []⟩) (fun i => i ≤ (ck n l m x).length) (fun i => (ck n l m x).length - i) (0) (Nat.zero_le _) ⟨⟨⟨_, rfl, (CoR.refl _)⟩, ⟨_, rfl, (CoR.refl _)⟩, trivial⟩, trivial⟩ ?_
  rintro i hi
  refine sx7 ?_; refine qy ?_; refine a6 ?_; refine a7 ?_; refine a8 _ rfl (fun r1 => ?_) (fun r1 => ?_)
  ·
   have h1 := of_decide_eq_true r1
   try simp only [ty] at h1
   have hil : i < (ck n l m x).length := Int.ofNat_lt.1 h1
   refine aa ?_; refine a7 ?_; refine ab ?_; refine sx7 ?_; (iterate 2 refine qy ?_); refine m9 0 ?_; refine s9 ?_; refine a6 ?_; refine a7 ?_; refine sx7 ?_; refine qy ?_
   refine rc rfl rfl rfl rfl rfl rfl w9 (a3h ((ck n l m x).getD i default)) (CoL.refl _) rfl rfl ?_; refine qy ?_; refine a6 ?_; refine a8 _ rfl (fun r2 => ?_) (fun r2 => ?_)
   ·
    have h2 := r2
    have h2 := of_decide_eq_false (b8 h2)
    try simp only [ty] at h2
    have hq : ¬ bsz ((ck n l m x).getD i default) = 1 := fun e => h2 (by rw [e]; rfl)
    refine ar ?_; refine gy ?_; (iterate 2 refine qy ?_); refine a6 ?_; refine ⟨i + 1, ?_, ?_, ?_⟩
    · show i + 1 ≤ _; omega
    · first | omega | (dsimp only; omega)
    · exact ⟨⟨⟨_, rfl, (by first | exact ja (congrArg asI (a4t hil hq)) | exact ja (congrArg asI (a3y hil hq ha)) | exact ja ((bOr _ _).trans (congrArg asI (a4q hil hq ha))))⟩, zy, c9, c9, c9, trivial⟩, trivial⟩
   ·
    have h2 := r2
    have h2 := of_decide_eq_true (b7 h2)
    try simp only [ty] at h2
    have hq : bsz ((ck n l m x).getD i default) = 1 := Int.ofNat_inj.1 h2
    refine aa ?_; refine a7 ?_; refine ia 13 rfl rfl rfl ?_; refine gy ?_; (iterate 2 refine qy ?_)
    refine rc rfl rfl rfl rfl rfl rfl akx (aq5 l 111 1 (fun j => [bx (asC ((ck n l m x).getD i default))].getD j .any) (vb ((ck n l m x).getD i default)) akq (fun f => ams f ((ck n l m x).getD i default))) (CoL.refl _) rfl rfl ?_
    refine a6 ?_; refine a8 _ rfl (fun r3 => ?_) (fun r3 => ?_)
    ·
     have h3 := r3
     have ha : l.any (vb ((ck n l m x).getD i default)) = true := r3
     refine gy ?_; (iterate 4 refine qy ?_); refine a6 ?_; refine gy ?_; (iterate 2 refine qy ?_); refine a6 ?_; refine ⟨i + 1, ?_, ?_, ?_⟩
     · show i + 1 ≤ _; omega
     · first | omega | (dsimp only; omega)
     · exact ⟨⟨⟨_, rfl, (by first | exact ja (congrArg asI (a4t hil hq)) | exact ja (congrArg asI (a3y hil hq ha)) | exact ja ((bOr _ _).trans (congrArg asI (a4q hil hq ha))))⟩, zy, c9, c9, c9, trivial⟩, trivial⟩
    ·
     have h3 := r3
     have ha : l.any (vb ((ck n l m x).getD i default)) = false := r3
     refine aa ?_; refine gy ?_; (iterate 2 refine qy ?_); refine a6 ?_; refine ⟨i + 1, ?_, ?_, ?_⟩
     · show i + 1 ≤ _; omega
     · first | omega | (dsimp only; omega)
     · exact ⟨⟨⟨_, rfl, (by first | exact ja (congrArg asI (a4t hil hq)) | exact ja (congrArg asI (a3y hil hq ha)) | exact ja ((bOr _ _).trans (congrArg asI (a4q hil hq ha))))⟩, zy, c9, c9, c9, trivial⟩, trivial⟩
  ·
   have h1 := of_decide_eq_false r1
   try simp only [ty] at h1
   obtain rfl : i = (ck n l m x).length := Nat.le_antisymm hi (Nat.le_of_not_lt fun q => h1 (Int.ofNat_lt.2 q))
   rw [show (ck n l m x).take (ck n l m x).length = (ck n l m x) from List.take_length]
   refine ar ?_; refine sx7 ?_; (iterate 3 refine qy ?_); refine a6 ?_
   exact hx8 rfl rfl rfl (⟨cci (congrArg asI (show py n l m x = aan n l m x from (if_pos hz).symm)), cci hz.symm, trivial⟩)
theorem uk : goodFn Tryz.prog 45 := ⟨Tryz.f45, Tryz.func45, by kernel_rfl, by kernel_rfl⟩
theorem qq (n : Int) (l m : List Fd) (s : AS) : ai Tryz.prog 45 [pI n, pP (fdl l), pP (fdl m), pA s] (al [pI (ck4 n l m s)]) := by
 refine aj (nt := 27) ah Tryz.func45 rfl rfl l9 ?_; refine sx7 ?_; refine qy ?_; refine a6 ?_; refine a7 ?_; refine sx7 ?_; (iterate 3 refine qy ?_); refine ca rfl rfl (fun r0 => ?_) (fun r0 => ?_)
 ·
  have h0 := of_decide_eq_true r0
  try simp only [ty] at h0
  (iterate 2 refine k9 (gtf r0) ?_); refine rq rfl rfl rfl rfl rfl ?_ (hp := r0); refine a6 ?_; refine a8 _ rfl (fun _ => ?_) (fun e => by cases e); refine sx7 ?_; refine qy ?_; refine a6 ?_
  exact hx8 rfl rfl rfl (⟨cci (a3n (by omega)).symm, trivial⟩)
 ·
  have h0 := of_decide_eq_false r0
  try simp only [ty] at h0
  (iterate 2 refine qy ?_ (hg := (gff r0))); refine qy ?_; refine a6 ?_; refine a8 _ rfl (fun r1 => ?_) (fun r1 => ?_)
  ·
   have h1 := r1
   have h1 := cu r0 h1
   have h1 := of_decide_eq_true h1
   try simp only [ty] at h1
   refine sx7 ?_; refine qy ?_; refine a6 ?_
   exact hx8 rfl rfl rfl (⟨cci (a3n (by omega)).symm, trivial⟩)
  ·
   have h1 := r1
   have h1 := cu r0 h1
   have h1 := of_decide_eq_false h1
   try simp only [ty] at h1
   refine aa ?_; refine a7 ?_; refine sx7 ?_; (iterate 3 refine qy ?_); refine rc rfl rfl rfl rfl rfl rfl zw (w6 n l m) (CoL.refl _) rfl rfl ?_; refine qy ?_; refine a6 ?_; refine sx7 ?_
   (iterate 2 refine qy ?_); refine a6 ?_; refine a8 _ rfl (fun r2 => ?_) (fun r2 => ?_)
   ·
    have h2 := r2
    have h2 := of_decide_eq_false (b8 h2)
    try simp only [ty] at h2
    have hc : ¬ (n < 0 ∨ 8 < n) := by omega
    refine sx7 ?_; (iterate 2 refine qy ?_); refine a6 ?_
    exact hx8 rfl rfl rfl (⟨cci ((oi hc).trans (aa4 (by assumption))).symm, trivial⟩)
   ·
    have h2 := r2
    have h2 := of_decide_eq_true (b7 h2)
    try simp only [ty] at h2
    have hb : cj n l m = 0 := h2
    obtain ⟨hn0, hn1, _⟩ := ng hb
    have hc : ¬ (n < 0 ∨ 8 < n) := by omega
    refine aa ?_; refine a7 ?_; refine sx7 ?_; (iterate 2 refine qy ?_); refine rq rfl rfl rfl rfl rfl ?_ (hp := hn0); refine qy ?_; refine a6 ?_; refine a8 _ rfl (fun r3 => ?_) (fun r3 => ?_)
    ·
     have h3 := r3
     have h3 := of_decide_eq_false (b8 h3)
     try simp only [ty] at h3
     refine sx7 ?_; refine qy ?_; refine a6 ?_
     exact hx8 rfl rfl rfl (⟨cci ((oi hc).trans (aii hb (fun e => (by assumption : ¬ _ = _) ((pf s n.toNat).trans (congrArg asI e))))).symm, trivial⟩)
    ·
     have h3 := r3
     have h3 := of_decide_eq_true (b7 h3)
     try simp only [ty] at h3
     refine aa ?_; refine sx7 ?_; refine qy ?_; refine a6 ?_
     exact hx8 rfl rfl rfl (⟨cci ((oi hc).trans (vr hb (dp.1 ((pf s n.toNat).symm.trans (by assumption))))).symm, trivial⟩)
end Go.Hx
end
section
namespace Go.Hx
open Go.Proofs
set_option maxRecDepth 100000
set_option maxHeartbeats 1000000
theorem xz {n : Int} (h : n ≤ 16) : ay n >>> n.toNat = 0 := by
 unfold ay
 rw [show min n.toNat 32 = n.toNat by omega]
 exact (jc (by omega)).1 (j4 _)
theorem ahz {n : Int} {l m : List Fd} {x : AS} (h : ckB n l m x = 0) : ai Tryz.prog 55 [pI n, pP (fdl l), pP (fdl m), pA x] (al [pP (asl (ck n l m x)), pI 0]) := by
 have := ak4 n l m x
 rw [h, show ai5 n l m x = ck n l m x from if_pos h] at this
 exact this
theorem afb {n : Int} {l m : List Fd} {x : AS} (h : ckB n l m x = 0) : ai Tryz.prog 54 [pI n, pP (fdl l), pP (fdl m), pA x] (al [pA (py n l m x), pI 0]) := by
 have := al9 n l m x
 rw [h, show aan n l m x = py n l m x from if_pos h] at this
 exact this
theorem ab9 {n : Int} {l m : List Fd} {p x : AS} (h : p &&& ~~~(py n l m x) = 0) : uo n l m p x = none := if_pos h
theorem aby {n : Int} {l m : List Fd} {p x : AS} (h : ¬ p &&& ~~~(py n l m x) = 0) (h2 : ¬ 1 < (fj n l m x p).length) : uo n l m p x = none := by unfold uo; rw [if_neg h, if_neg h2]
theorem ap7 {n : Int} {l m : List Fd} {p x : AS} (h : ¬ p &&& ~~~(py n l m x) = 0) (h2 : 1 < (fj n l m x p).length) : uo n l m p x = some ⟨x, (fj n l m x p).getD 0 default⟩ := by unfold uo; rw [if_neg h, if_pos h2]
def is4 (n : Int) (l m : List Fd) : Bool := if ck4 n l m 0 = 0 then !(s7 n l m (ay n)).2 else false
theorem uq : goodFn Tryz.prog 27 := ⟨Tryz.f27, Tryz.func27, by kernel_rfl, by kernel_rfl⟩
theorem aj4 (n : Int) (l m : List Fd) (x p : AS) : ai Tryz.prog 27 [pI n, pP (fdl l), pP (fdl m), pA x, pA p] (al [pP (asl (aa6 n l m x p)), pI (ck4 n l m (x ||| p))]) := by
 refine aj (nt := 58) ah Tryz.func27 rfl rfl l9 ?_; refine sx7 ?_; (iterate 2 refine qy ?_); refine a6 ?_; refine a7 ?_; refine sx7 ?_; (iterate 6 refine qy ?_)
 refine rc rfl rfl rfl rfl rfl rfl uk (qq n l m (x ||| p)) (⟨CoC.refl _, CoC.refl _, CoC.refl _, cci (bOr _ _), trivial⟩) rfl rfl ?_; refine qy ?_; refine a6 ?_; refine sx7 ?_; (iterate 2 refine qy ?_)
 refine a6 ?_; refine a8 _ rfl (fun r0 => ?_) (fun r0 => ?_)
 ·
  have h0 := r0
  have h0 := of_decide_eq_false (b8 h0)
  try simp only [ty] at h0
  refine sx7 ?_; (iterate 3 refine qy ?_); refine a6 ?_
  exact hx8 rfl rfl rfl (⟨CoC.one (aag (if_neg (by assumption))), CoC.refl _, trivial⟩)
 ·
  have h0 := r0
  have h0 := of_decide_eq_true (b7 h0)
  try simp only [ty] at h0
  have hz : ck4 n l m (x ||| p) = 0 := h0
  have hx := a1x (qu hz).2.2 (s8 (a := x) (b := p))
  refine aa ?_; refine sx7 ?_; (iterate 4 refine qy ?_); refine rc rfl rfl rfl rfl rfl rfl amh (ahz hx) (CoL.refl _) rfl rfl ?_; (iterate 5 refine qy ?_); refine a6 ?_; refine a7 ?_; refine sx7 ?_
  (iterate 2 refine qy ?_); refine a6 ?_; refine a8 _ rfl (fun e => by cases e) (fun _ => ?_); refine aa ?_; refine sx7 ?_; refine qy ?_; refine a6 ?_; refine a7 ?_; refine sx7 ?_; (iterate 3 refine qy ?_)
  refine a6 ?_; refine ab ?_; refine gf 15 900 true 1 38 (lf sC []) (by decide) rfl (CoP.sl rfl (.inr rfl) (fun h => h) (fun i j hi _ => absurd hi (Nat.not_lt_zero i))) (.inr rfl) rfl ?_
  have hbl := yg n l m x
  refine ao (ι := Nat) ⟨[(4, some _), (39, some _), (40, some _)], []⟩ ⟨⟨c9, c9, c9, trivial⟩, trivial⟩ (fun i => ⟨[(15, some (.v (.one (.ref 900 (j0 p ((ck n l m x).take i)).length)))), (41, some (vI i))], [(900, some (.arr true 1 38 (j0 p ((ck n l m x).take i)).length (lf sC (j0 p ((ck n l m x).take i)))))]⟩) (fun i => i ≤ (ck n l m x).length) (fun i => (ck n l m x).length - i) (0) (Nat.zero_le _) ⟨⟨⟨_, rfl, (CoR.refl _)⟩, ⟨_, rfl, (CoR.refl _)⟩, trivial⟩, ⟨u9, trivial⟩⟩ ?_
  rintro i hi
  have hcl : (j0 p ((ck n l m x).take i)).length ≤ i := Nat.le_trans (a65 _ _) (by rw [List.length_take]; omega)
  refine sx7 ?_; refine qy ?_; refine a6 ?_; refine a7 ?_; refine a8 _ rfl (fun r1 => ?_) (fun r1 => ?_)
  ·
   have h1 := of_decide_eq_true r1
   try simp only [ty] at h1
   refine aa ?_; refine a7 ?_; refine ab ?_; refine sx7 ?_; (iterate 3 refine qy ?_); refine a6 ?_; refine sx7 ?_; (iterate 4 refine qy ?_); refine a6 ?_; refine a8 _ rfl (fun r2 => ?_) (fun r2 => ?_)
   ·
    have h2 := r2
    have h2 := of_decide_eq_false (b8 h2)
    try simp only [ty] at h2
    have hq : ¬ (ck n l m x).getD i default &&& p = 0 := qz h2
    refine gy ?_; (iterate 4 refine qy ?_); refine m9 0 ?_; refine ra 1 true rfl rfl rfl rfl rfl rfl ?_; refine qy ?_; refine a6 ?_; refine gy ?_; (iterate 2 refine qy ?_); refine a6 ?_
    first | (refine ⟨i + 1, ?_, ?_, ?_⟩
             · show i + 1 ≤ _; omega
             · first | omega | (dsimp only; omega)
             · exact ⟨⟨⟨_, rfl, (fv (zo (by omega) hq))⟩, ⟨_, rfl, (CoR.refl _)⟩, c9, c9, c9, trivial⟩, ⟨⟨_, rfl, (gt (zo (by omega) hq) (CoP.of_eq (congrArg (fun z => PV.raw (.int .u32 z)) (gv _ _))))⟩, trivial⟩⟩)
          | (refine ⟨i + 1, ?_, ?_, ?_⟩
             · show i + 1 ≤ _; omega
             · first | omega | (dsimp only; omega)
             · exact ⟨⟨⟨_, rfl, (dz (a09 (by omega) hq))⟩, ⟨_, rfl, (CoR.refl _)⟩, c9, c9, c9, trivial⟩, ⟨⟨_, rfl, (du (a09 (by omega) hq))⟩, trivial⟩⟩)
   ·
    have h2 := r2
    have h2 := of_decide_eq_true (b7 h2)
    try simp only [ty] at h2
    have hq : (ck n l m x).getD i default &&& p = 0 := wd h2
    refine aa ?_; refine gy ?_; (iterate 2 refine qy ?_); refine a6 ?_
    first | (refine ⟨i + 1, ?_, ?_, ?_⟩
             · show i + 1 ≤ _; omega
             · first | omega | (dsimp only; omega)
             · exact ⟨⟨⟨_, rfl, (fv (zo (by omega) hq))⟩, ⟨_, rfl, (CoR.refl _)⟩, c9, c9, c9, trivial⟩, ⟨⟨_, rfl, (gt (zo (by omega) hq) (CoP.of_eq (congrArg (fun z => PV.raw (.int .u32 z)) (gv _ _))))⟩, trivial⟩⟩)
          | (refine ⟨i + 1, ?_, ?_, ?_⟩
             · show i + 1 ≤ _; omega
             · first | omega | (dsimp only; omega)
             · exact ⟨⟨⟨_, rfl, (dz (a09 (by omega) hq))⟩, ⟨_, rfl, (CoR.refl _)⟩, c9, c9, c9, trivial⟩, ⟨⟨_, rfl, (du (a09 (by omega) hq))⟩, trivial⟩⟩)
  ·
   have h1 := of_decide_eq_false r1
   try simp only [ty] at h1
   obtain rfl : i = (ck n l m x).length := by omega
   rw [show (ck n l m x).take (ck n l m x).length = (ck n l m x) from List.take_length]
   refine ar ?_; refine a7 ?_; refine ce 15 rfl rfl rfl ?_; refine gy ?_; refine qy ?_; refine rc rfl rfl rfl rfl rfl rfl zp (a03 (j0 p (ck n l m x)) (a8u n l m x p)) (CoL.refl _) rfl rfl ?_
   (iterate 2 refine qy ?_); refine a6 ?_
   exact hx8 rfl rfl rfl (⟨CoC.one (CoP.of_eq (by rw [show aa6 n l m x p = fj n l m x p from if_pos hz]; rfl)), cci hz.symm, trivial⟩)
theorem ao8 {n : Int} {l m : List Fd} {x p : AS} (h : ck4 n l m (x ||| p) = 0) : ai Tryz.prog 27 [pI n, pP (fdl l), pP (fdl m), pA x, pA p] (al [pP (asl (fj n l m x p)), pI 0]) := by
 have := aj4 n l m x p
 rw [h, show aa6 n l m x p = fj n l m x p from if_pos h] at this
 exact this
theorem nv : goodFn Tryz.prog 26 := ⟨Tryz.f26, Tryz.func26, by kernel_rfl, by kernel_rfl⟩
theorem a3m (n : Int) (l m : List Fd) (p : AS) : ai Tryz.prog 26 [pI n, pP (fdl l), pP (fdl m), pA p] (al [(s7 n l m p).1.pc, pB (s7 n l m p).2, pI (ck4 n l m p)]) := by
 refine aj (nt := 72) ah Tryz.func26 rfl rfl l9 ?_; refine sx7 ?_; refine m9 0 ?_; (iterate 2 refine qy ?_); refine a6 ?_; refine a7 ?_; refine sx7 ?_; (iterate 4 refine qy ?_)
 refine rc rfl rfl rfl rfl rfl rfl uk (qq n l m p) (CoL.refl _) rfl rfl ?_; refine qy ?_; refine a6 ?_; refine sx7 ?_; (iterate 2 refine qy ?_); refine a6 ?_; refine a8 _ rfl (fun r0 => ?_) (fun r0 => ?_)
 ·
  have h0 := r0
  have h0 := of_decide_eq_false (b8 h0)
  try simp only [ty] at h0
  refine sx7 ?_; (iterate 2 refine qy ?_); refine s9 ?_; (iterate 2 refine qy ?_); refine a6 ?_
  exact hx8 rfl rfl rfl (by rw [ab7 (by assumption)]; exact ⟨CoC.agg ⟨CoP.of_eq rfl, CoP.of_eq rfl, trivial⟩, CoC.refl _, CoC.refl _, trivial⟩)
 ·
  have h0 := r0
  have h0 := of_decide_eq_true (b7 h0)
  try simp only [ty] at h0
  have hz : ck4 n l m p = 0 := h0
  have hsl := aew p
  refine aa ?_; refine a7 ?_; refine sx7 ?_; refine qy ?_; refine rc rfl rfl rfl rfl rfl rfl amx (aqn p) (CoL.refl _) rfl rfl ?_; (iterate 2 refine qy ?_); refine a6 ?_; refine ab ?_
  refine ao (ι := Nat) ⟨[(0, some _), (1, some _), (2, some _), (3, some _), (8, some _), (27, some _), (28, some _)], [(0, some _)]⟩ ⟨⟨c9, c9, c9, c9, c9, c9, c9, trivial⟩, ⟨u9, trivial⟩⟩ (fun i => ⟨[(29, some (vI i))], []⟩) (fun i => i ≤ (cw p).length ∧ ((cw p).take i).findSome? (uo n l m p) = none) (fun i => (cw p).length - i) (0) (⟨Nat.zero_le _, rfl⟩) ⟨⟨⟨_, rfl, (CoR.refl _)⟩, trivial⟩, trivial⟩ ?_
  rintro i ⟨hi, hI⟩
  refine sx7 ?_; refine qy ?_; refine a6 ?_; refine a7 ?_; refine a8 _ rfl (fun r1 => ?_) (fun r1 => ?_)
  ·
   have h1 := of_decide_eq_true r1
   try simp only [ty] at h1
   have hil : i < (cw p).length := by omega
   have hxs : sub ((cw p).getD i default) p := a37 (lz hil)
   have hX : ckB n l m ((cw p).getD i default) = 0 := a1x (qu hz).2.2 hxs
   have hXp : ck4 n l m (((cw p).getD i default) ||| p) = 0 := a21 hz (rg hxs (j4 p))
   refine aa ?_; refine a7 ?_; refine ab ?_; refine sx7 ?_; (iterate 3 refine qy ?_); refine a6 ?_; refine sx7 ?_; (iterate 4 refine qy ?_)
   refine rc rfl rfl rfl rfl rfl rfl amk (afb hX) (CoL.refl _) rfl rfl ?_; (iterate 5 refine qy ?_); refine a6 ?_; refine a7 ?_; refine sx7 ?_; (iterate 2 refine qy ?_); refine a6 ?_
   refine a8 _ rfl (fun e => by cases e) (fun _ => ?_); refine aa ?_; refine a7 ?_; refine sx7 ?_; (iterate 4 refine qy ?_); refine a6 ?_; refine a8 _ rfl (fun r2 => ?_) (fun r2 => ?_)
   ·
    have h2 := of_decide_eq_true r2
    try simp only [ty] at h2
    have hq : p &&& ~~~(py n l m ((cw p).getD i default)) = 0 := aio h2
    refine ar ?_; refine gy ?_; (iterate 2 refine qy ?_); refine a6 ?_; refine ⟨i + 1, ?_, ?_, ?_⟩
    · exact ⟨by omega, (u6 hil hI).trans (by first | exact ab9 hq | exact aby hq hc)⟩
    · first | omega | (dsimp only; omega)
    · exact ⟨⟨⟨_, rfl, (CoR.refl _)⟩, c9, c9, c9, c9, c9, c9, c9, trivial⟩, ⟨u9, trivial⟩⟩
   ·
    have h2 := of_decide_eq_false r2
    try simp only [ty] at h2
    have hq : ¬ p &&& ~~~(py n l m ((cw p).getD i default)) = 0 := ael h2
    refine aa ?_; refine sx7 ?_; (iterate 5 refine qy ?_); refine rc rfl rfl rfl rfl rfl rfl uq (ao8 hXp) (CoL.refl _) rfl rfl ?_; (iterate 5 refine qy ?_); refine a6 ?_; refine a7 ?_; refine sx7 ?_
    (iterate 2 refine qy ?_); refine a6 ?_; refine a8 _ rfl (fun e => by cases e) (fun _ => ?_); refine aa ?_; refine sx7 ?_; (iterate 3 refine qy ?_); refine a6 ?_
    refine a8 _ rfl (fun r3 => ?_) (fun r3 => ?_)
    ·
     have h3 := of_decide_eq_true r3
     try simp only [ty] at h3
     have hc : 1 < (fj n l m ((cw p).getD i default) p).length := by omega
     have hcl : (fj n l m ((cw p).getD i default) p).length ≤ 8589934592 := Nat.le_trans (vu _) (a8u n l m ((cw p).getD i default) p)
     refine sx7 ?_; (iterate 5 refine qy ?_); refine s9 ?_; (iterate 2 refine qy ?_); refine a6 ?_; refine bi ?_; refine ⟨.inr rfl, ?_⟩
     have he : s7 n l m p = (⟨((cw p).getD i default), (fj n l m ((cw p).getD i default) p).getD 0 default⟩, true) := by
      rw [a0h hz, show fm n l m p = some _ from aca hil hI (ap7 hq hc)]
      rfl
     exact f9 rfl rfl (by rw [he]; exact ⟨CoC.agg ⟨CoP.refl _, CoP.refl _, trivial⟩, CoC.refl _, cci hz.symm, trivial⟩)
    ·
     have h3 := of_decide_eq_false r3
     try simp only [ty] at h3
     have hc : ¬ 1 < (fj n l m ((cw p).getD i default) p).length := by omega
     refine aa ?_; refine gy ?_; (iterate 2 refine qy ?_); refine a6 ?_; refine ⟨i + 1, ?_, ?_, ?_⟩
     · exact ⟨by omega, (u6 hil hI).trans (by first | exact ab9 hq | exact aby hq hc)⟩
     · first | omega | (dsimp only; omega)
     · exact ⟨⟨⟨_, rfl, (CoR.refl _)⟩, c9, c9, c9, c9, c9, c9, c9, trivial⟩, ⟨u9, trivial⟩⟩
  ·
   have h1 := of_decide_eq_false r1
   try simp only [ty] at h1
   obtain rfl : i = (cw p).length := by omega
   rw [show (cw p).take (cw p).length = (cw p) from List.take_length] at hI
   refine ar ?_; refine sx7 ?_; refine qy ?_; refine s9 ?_; (iterate 2 refine qy ?_); refine a6 ?_; refine bi ?_; refine ⟨.inr rfl, ?_⟩
   have he : s7 n l m p = (⟨0, 0⟩, false) := by
    rw [a0h hz, show fm n l m p = none from hI]
    rfl
   exact f9 rfl rfl (by rw [he]; exact ⟨CoC.agg ⟨CoP.of_eq rfl, CoP.of_eq rfl, trivial⟩, CoC.refl _, cci hz.symm, trivial⟩)
theorem a3q {n : Int} {l m : List Fd} {p : AS} (h : ck4 n l m p = 0) : ai Tryz.prog 26 [pI n, pP (fdl l), pP (fdl m), pA p] (al [(vF (fm n l m) p).pc, pB (vBo (fm n l m) p), pI 0]) := by
 have := a3m n l m p
 rw [h, a0h h] at this
 exact this
theorem an7 : goodFn Tryz.prog 25 := ⟨Tryz.f25, Tryz.func25, by kernel_rfl, by kernel_rfl⟩
theorem arf (n : Int) (l m : List Fd) : ai Tryz.prog 25 [pI n, pP (fdl l), pP (fdl m)] (al [pB (is4 n l m), pI (ck4 n l m 0)]) := by
 refine aj (nt := 37) ah Tryz.func25 rfl rfl l9 ?_; refine sx7 ?_; (iterate 2 refine qy ?_); refine a6 ?_; refine a7 ?_; refine sx7 ?_; (iterate 3 refine qy ?_)
 refine rc rfl rfl rfl rfl rfl rfl uk (qq n l m 0) (CoL.refl _) rfl rfl ?_; refine qy ?_; refine a6 ?_; refine sx7 ?_; (iterate 2 refine qy ?_); refine a6 ?_; refine a8 _ rfl (fun r0 => ?_) (fun r0 => ?_)
 ·
  have h0 := r0
  have h0 := of_decide_eq_false (b8 h0)
  try simp only [ty] at h0
  refine sx7 ?_; (iterate 3 refine qy ?_); refine a6 ?_
  exact hx8 rfl rfl rfl (⟨ccb (show false = is4 n l m from (if_neg (by assumption)).symm), CoC.refl _, trivial⟩)
 ·
  have h0 := r0
  have h0 := of_decide_eq_true (b7 h0)
  try simp only [ty] at h0
  have hz : ck4 n l m 0 = 0 := h0
  obtain ⟨hn0, hn8, hb⟩ := qu hz
  have hn1 : n ≤ 16 := by omega
  have hf : ck4 n l m (ay n) = 0 := by rw [oi (by omega)]; exact vr (o5 hb).1 (xz hn1)
  refine aa ?_; refine sx7 ?_; (iterate 5 refine qy ?_); refine rq rfl rfl rfl rfl rfl ?_ (hp := ⟨so hn0 hn1, ot hn0 hn1⟩)
  refine rc rfl rfl rfl rfl rfl rfl nv (a3q hf) (⟨CoC.refl _, CoC.refl _, CoC.refl _, cci (mc hn0 hn1), trivial⟩) rfl rfl ?_; (iterate 4 refine qy ?_); refine m9 0 ?_; refine s9 ?_; (iterate 2 refine qy ?_)
  refine a6 ?_; refine sx7 ?_; (iterate 9 refine qy ?_); refine a6 ?_
  exact hx8 rfl rfl rfl (⟨ccb (by unfold is4; rw [if_pos hz, a0h hf]; rfl), cci hz.symm, trivial⟩)
theorem ad3 {V : AS → Option Fd} {t : List AS} {i j : Nat} (h : i = j) : PV.raw (.int .u32 (cq .andNot .u32 (asI (t.getD i default)) (asI (vF V (t.getD j default)).rhs))) = sC (o8 V (t.getD j default)) 0 := by
 subst h
 exact congrArg (fun z => PV.raw (.int .u32 z)) (kr _ _)
theorem a86 {n : Int} {l m : List Fd} {t : List AS} {s : AS} (ht : ∀ q ∈ t, ck4 n l m q = 0) (hv : vBo (fm n l m) s = true) (hs : ck4 n l m s = 0) : ∀ q ∈ t ++ [pj (fm n l m) s, o8 (fm n l m) s], ck4 n l m q = 0 := by
 intro q hq
 rcases List.mem_append.1 hq with hq | hq
 · exact ht q hq
 · obtain ⟨h1, h2, h3⟩ := yu n l m s _ (a6i hv)
   simp only [List.mem_cons, List.not_mem_nil, or_false] at hq
   rcases hq with rfl | rfl
   · exact a21 hs h1
   · exact a21 hs a2i
theorem a5b : goodFn Tryz.prog 13 := ⟨Tryz.f13, Tryz.func13, by kernel_rfl, by kernel_rfl⟩
theorem a9a (n : Int) (l m : List Fd) : ai Tryz.prog 13 [pI n, pP (fdl l), pP (fdl m)] (al [pP (asl (a4b n l m)), pI (ck4 n l m 0)]) := by
 refine aj (nt := 71) ah Tryz.func13 rfl rfl l9 ?_; refine sx7 ?_; (iterate 2 refine qy ?_); refine a6 ?_; refine a7 ?_; refine sx7 ?_; (iterate 3 refine qy ?_)
 refine rc rfl rfl rfl rfl rfl rfl uk (qq n l m 0) (CoL.refl _) rfl rfl ?_; refine qy ?_; refine a6 ?_; refine sx7 ?_; (iterate 2 refine qy ?_); refine a6 ?_; refine a8 _ rfl (fun r0 => ?_) (fun r0 => ?_)
 ·
  have h0 := r0
  have h0 := of_decide_eq_false (b8 h0)
  try simp only [ty] at h0
  refine sx7 ?_; (iterate 3 refine qy ?_); refine a6 ?_
  exact hx8 rfl rfl rfl (⟨CoC.one (aag (ab6 (by assumption))), CoC.refl _, trivial⟩)
 ·
  have h0 := r0
  have h0 := of_decide_eq_true (b7 h0)
  try simp only [ty] at h0
  have hz : ck4 n l m 0 = 0 := h0
  obtain ⟨hn0, hn8, hb⟩ := qu hz
  have hn1 : n ≤ 16 := by omega
  have hf : ck4 n l m (ay n) = 0 := by rw [oi (by omega)]; exact vr (o5 hb).1 (xz hn1)
  refine aa ?_; refine sx7 ?_; (iterate 2 refine qy ?_); refine rq rfl rfl rfl rfl rfl ?_ (hp := ⟨so hn0 hn1, ot hn0 hn1⟩); refine m9 0 ?_; refine qy ?_; refine a6 ?_; refine sx7 ?_; refine qy ?_
  refine a6 ?_; refine a7 ?_; refine ab ?_; refine gf 10 900 true 1 38 (lf sC []) (by decide) rfl (CoP.sl rfl (.inr rfl) (fun h => h) (fun i j hi _ => absurd hi (Nat.not_lt_zero i))) (.inr rfl) rfl ?_
  refine vo 9 901 rfl rfl rfl rfl ?_
  refine ao (ι := Nat × List AS × List AS) ⟨[(0, some _), (1, some _), (2, some _)], []⟩ ⟨⟨c9, c9, c9, trivial⟩, trivial⟩ (fun x => ⟨[(10, some (.v (.one (.ref 900 x.2.2.length)))), (9, some (.v (.one (.ref 901 x.2.1.length))))], [(900, some (.arr true 1 38 x.2.2.length (lf sC x.2.2))), (901, some (.arr true 1 38 x.2.1.length (lf sC x.2.1)))]⟩) (fun x => vk (fm n l m) (ay n) x ∧ ∀ q ∈ x.2.1, ck4 n l m q = 0) (fun x => x.1) ((6562, [ay n], [])) (⟨ac5 hn8, fun q hq => by
        simp only [List.mem_singleton] at hq
        rw [hq]; exact hf⟩) ⟨⟨zy, zy, trivial⟩, ⟨u9, ⟨_, rfl, (a3u (CoP.of_eq (congrArg (fun z => PV.raw (.int .u32 z)) (mc hn0 hn1))))⟩, trivial⟩⟩ ?_
  rintro x ⟨hx, hk⟩
  have hlen := sn hx
  refine vo 9 902 rfl rfl rfl rfl ?_; refine a7 ?_; refine sx7 ?_; (iterate 3 refine qy ?_); refine a6 ?_; refine a8 _ rfl (fun r1 => ?_) (fun r1 => ?_)
  ·
   have h1 := of_decide_eq_true r1
   try simp only [ty] at h1
   have hs : ck4 n l m (x.2.1.getD (x.2.1.length - 1) default) = 0 := hk _ (lz (by omega))
   refine aa ?_; refine ab ?_; refine sx7 ?_; (iterate 7 refine qy ?_); refine a6 ?_; refine sx7 ?_; (iterate 6 refine qy ?_); refine a6 ?_
   refine af1 ⟨[(0, some _), (1, some _), (2, some _), (9, some _), (10, some _), (11, some _)], [(900, some _), (902, some _)]⟩ (by exact ⟨⟨c9, c9, c9, c9, c9, c9, trivial⟩, ⟨u9, u9, trivial⟩⟩) ?_
   refine af0 9 901 rfl rfl rfl rfl (by simp only [dt, be, Int.toNat_natCast]; omega) rfl ?_; refine sx7 ?_; (iterate 4 refine qy ?_)
   refine rc rfl rfl rfl rfl rfl rfl nv (a3q (p := (x.2.1.getD (x.2.1.length - 1) default)) hs) (⟨CoC.refl _, CoC.refl _, CoC.refl _, CoC.one (CoP.of_eq (congrArg (fun i => asC (x.2.1.getD i default)) (by omega))), trivial⟩) rfl rfl ?_
   (iterate 4 refine qy ?_); refine m9 1 ?_; refine s9 ?_; (iterate 2 refine qy ?_); refine a6 ?_; refine a7 ?_; refine sx7 ?_; (iterate 2 refine qy ?_); refine a6 ?_
   refine a8 _ rfl (fun e => by cases e) (fun _ => ?_); refine aa ?_; refine sx7 ?_; refine qy ?_; refine a6 ?_; refine a8 _ rfl (fun r2 => ?_) (fun r2 => ?_)
   ·
    have h2 := r2
    have hv : vBo (fm n l m) (x.2.1.getD (x.2.1.length - 1) default) = true := r2
    refine gy ?_; (iterate 10 refine qy ?_); refine m9 2 ?_; refine ra 3 true rfl rfl rfl rfl rfl rfl ?_; refine qy ?_; refine a6 ?_
    first | (refine ⟨(x.1 - 1, (x.2.1.take (x.2.1.length - 1)) ++ [pj (fm n l m) (x.2.1.getD (x.2.1.length - 1) default), o8 (fm n l m) (x.2.1.getD (x.2.1.length - 1) default)], x.2.2), ?_, ?_, ?_⟩
             · exact ⟨abj (yu n l m) hx (by omega) hv, a86 (fun q hq => hk q (List.mem_of_mem_take hq)) hv hs⟩
             · dsimp only
               omega
             · exact ⟨⟨zy, ⟨_, rfl, (a0r (by simp only [dt, be, List.length_append, List.length_cons, List.length_nil, List.length_take]; omega))⟩, c9, c9, c9, trivial⟩, ⟨u9, ⟨_, rfl, (a7t (by simp only [dt, be, List.length_append, List.length_cons, List.length_nil, List.length_take]; omega) (fun i hi => CoP.of_eq (a4e hi)) (CoP.of_eq (congrArg (fun z => PV.raw (.int .u32 z)) (bOr _ _))) (CoP.of_eq (ad3 (by omega))) rfl)⟩, trivial⟩⟩)
          | (refine ⟨(x.1 - 1, (x.2.1.take (x.2.1.length - 1)), x.2.2 ++ [(x.2.1.getD (x.2.1.length - 1) default)]), ?_, ?_, ?_⟩
             · exact ⟨ae1 hx (by omega) hv, fun q hq => hk q (List.mem_of_mem_take hq)⟩
             · dsimp only
               omega
             · exact ⟨⟨⟨_, rfl, (fv rfl)⟩, ⟨_, rfl, (a0r (by simp only [dt, be, List.length_append, List.length_cons, List.length_nil, List.length_take]; omega))⟩, c9, c9, c9, trivial⟩, ⟨⟨_, rfl, (gt rfl (CoP.of_eq (congrArg (fun i => asC (x.2.1.getD i default)) (by omega))))⟩, ⟨_, rfl, (a3v (by omega) (by simp only [dt, be]; omega))⟩, trivial⟩⟩)
   ·
    have h2 := r2
    have hv : vBo (fm n l m) (x.2.1.getD (x.2.1.length - 1) default) = false := r2
    refine gy ?_; (iterate 2 refine qy ?_); refine m9 4 ?_; refine ra 5 true rfl rfl rfl rfl rfl rfl ?_; refine qy ?_; refine a6 ?_
    first | (refine ⟨(x.1 - 1, (x.2.1.take (x.2.1.length - 1)) ++ [pj (fm n l m) (x.2.1.getD (x.2.1.length - 1) default), o8 (fm n l m) (x.2.1.getD (x.2.1.length - 1) default)], x.2.2), ?_, ?_, ?_⟩
             · exact ⟨abj (yu n l m) hx (by omega) hv, a86 (fun q hq => hk q (List.mem_of_mem_take hq)) hv hs⟩
             · dsimp only
               omega
             · exact ⟨⟨zy, ⟨_, rfl, (a0r (by simp only [dt, be, List.length_append, List.length_cons, List.length_nil, List.length_take]; omega))⟩, c9, c9, c9, trivial⟩, ⟨u9, ⟨_, rfl, (a7t (by simp only [dt, be, List.length_append, List.length_cons, List.length_nil, List.length_take]; omega) (fun i hi => CoP.of_eq (a4e hi)) (CoP.of_eq (congrArg (fun z => PV.raw (.int .u32 z)) (bOr _ _))) (CoP.of_eq (ad3 (by omega))) rfl)⟩, trivial⟩⟩)
          | (refine ⟨(x.1 - 1, (x.2.1.take (x.2.1.length - 1)), x.2.2 ++ [(x.2.1.getD (x.2.1.length - 1) default)]), ?_, ?_, ?_⟩
             · exact ⟨ae1 hx (by omega) hv, fun q hq => hk q (List.mem_of_mem_take hq)⟩
             · dsimp only
               omega
             · exact ⟨⟨⟨_, rfl, (fv rfl)⟩, ⟨_, rfl, (a0r (by simp only [dt, be, List.length_append, List.length_cons, List.length_nil, List.length_take]; omega))⟩, c9, c9, c9, trivial⟩, ⟨⟨_, rfl, (gt rfl (CoP.of_eq (congrArg (fun i => asC (x.2.1.getD i default)) (by omega))))⟩, ⟨_, rfl, (a3v (by omega) (by simp only [dt, be]; omega))⟩, trivial⟩⟩)
  ·
   have h1 := of_decide_eq_false r1
   try simp only [ty] at h1
   refine ar ?_; refine a7 ?_; refine ce 10 rfl rfl rfl ?_
   have hx0 : x.2.1.length = 0 := by omega
   refine gy ?_; refine qy ?_; refine rc rfl rfl rfl rfl rfl rfl aov (ahy x.2.2 (by omega)) (CoL.refl _) rfl rfl ?_; (iterate 2 refine qy ?_); refine a6 ?_
   exact hx8 rfl rfl rfl (⟨CoC.one (CoP.of_eq (by rw [aox hz, ag0 hx hx0]; rfl)), cci hz.symm, trivial⟩)
end Go.Hx
end
section
namespace Go.Hx
theorem amy : s7 3 [] [⟨1, 2⟩] 7 = (⟨1, 2⟩, true) ∧ ck4 3 [] [⟨1, 2⟩] 7 = 0 := by decide +kernel
theorem ap4 : a4b 3 [] [⟨1, 2⟩] = [3, 5] ∧ ck4 3 [] [⟨1, 2⟩] 0 = 0 := by decide +kernel
theorem an1 : s7 3 [⟨2, 4⟩] [] 7 = (⟨2, 1⟩, true) ∧ ck4 3 [⟨2, 4⟩] [] 7 = 0 := by decide +kernel
theorem an8 : a4b 3 [⟨2, 4⟩] [] = [3, 6] ∧ ck4 3 [⟨2, 4⟩] [] 0 = 0 := by decide +kernel
structure Mx where
 d : Dps
 m : List Dp
deriving Inhabited
def Mx.mv (x : Mx) : List Fd := x.m.map (Dp.fd x.d.num)
def Mx.c (x : Mx) : Nat → PV
 | 0 => x.d.c 0
 | 1 => x.d.c 1
 | 2 => dpl x.m
 | _ => .any
abbrev Mx.pc (x : Mx) : PC := .agg [x.c 0, x.c 1, x.c 2]
def Mx.ok (x : Mx) : Bool := decide (x.d.l.length ≤ 6) && decide (x.m.length ≤ 4)
theorem amf {a b : List AS} (hl : a.length = b.length) (h : ∀ j, j < a.length → a.getD j default = b.getD j default) : a = b := by
 apply List.ext_getElem hl
 intro i h1 h2
 have := h i h1
 rw [List.getD_eq_getElem?_getD, List.getD_eq_getElem?_getD, List.getElem?_eq_getElem h1, List.getElem?_eq_getElem h2] at this
 simpa using this
theorem aj5 {n : Int} {l m : List Fd} {a b : AS} (hb : cj n l m = 0) : ckB n l m (a ||| b) = if sub a (ay n) ∧ sub b (ay n) then 0 else 1 := by
 obtain ⟨hn0, hn1, _⟩ := ng hb
 unfold ckB ay
 rw [if_pos hb, show min n.toNat 32 = n.toNat by omega]
 have e : (a ||| b) >>> n.toNat = 0 ↔ sub a (er n.toNat) ∧ sub b (er n.toNat) := by rw [amp, jc (by omega), jc (by omega)]
 by_cases h : (a ||| b) >>> n.toNat = 0
 · rw [if_pos h, if_pos (e.1 h)]
 · rw [if_neg h, if_neg fun q => h (e.2 q)]
theorem amw {n : Int} {l m : List Fd} {a b : AS} (hb : cj n l m = 0) (ha : sub a (ay n)) (hb' : sub b (ay n)) : ckB n l m (a ||| b) = 0 := by rw [aj5 hb, if_pos ⟨ha, hb'⟩]
theorem abo {n : Int} {l m : List Fd} {a b : AS} (hb : cj n l m = 0) (h : ¬ sub a (ay n) ∨ ¬ sub b (ay n)) : ckB n l m (a ||| b) = 1 := by
 rw [aj5 hb, if_neg]
 rintro ⟨h1, h2⟩
 rcases h with h | h
 · exact h h1
 · exact h h2
def a9k (n : Int) (l m : List Fd) (ps : List AS) : Int := if ck4 n l m 0 = 0 then lsC n ps l m else ck4 n l m 0
def a2a (n : Int) (l m : List Fd) (ps : List AS) : Bool := if ck4 n l m 0 = 0 then (if lsC n ps l m = 0 then lsB n ps l m && ps.all (fun p => !vBo (fm n l m) p) else false) else false
theorem a9d {n : Int} {l m : List Fd} {ps : List AS} (h : ¬ ck4 n l m 0 = 0) : a9k n l m ps = ck4 n l m 0 ∧ a2a n l m ps = false := ⟨if_neg h, if_neg h⟩
theorem apz {n : Int} {l m : List Fd} {ps : List AS} (h : ck4 n l m 0 = 0) (h2 : ¬ lsC n ps l m = 0) : a9k n l m ps = lsC n ps l m ∧ a2a n l m ps = false := ⟨if_pos h, by unfold a2a; rw [if_pos h, if_neg h2]⟩
theorem apg {n : Int} {l m : List Fd} {ps : List AS} (h : ck4 n l m 0 = 0) (h2 : lsC n ps l m = 0) : a9k n l m ps = 0 ∧ a2a n l m ps = (lsB n ps l m && ps.all (fun p => !vBo (fm n l m) p)) := ⟨(if_pos h).trans h2, by unfold a2a; rw [if_pos h, if_pos h2]⟩
theorem a5o {ps : List AS} {V : AS → Option Fd} {i : Nat} (h : i < ps.length) : (ps.take (i + 1)).all (fun p => !vBo V p) = ((ps.take i).all (fun p => !vBo V p) && !vBo V (ps.getD i default)) := by
 rw [bg h, List.all_append]
 simp only [List.all_cons, List.all_nil, Bool.and_true]
theorem alh {n : Int} {l m : List Fd} {ps : List AS} (h : ck4 n l m 0 = 0) (h2 : lsC n ps l m = 0) {p : AS} (hp : p ∈ ps) : ck4 n l m p = 0 := by
 obtain ⟨hn0, hn8, hb⟩ := qu h
 obtain ⟨_, _, _, _, ho⟩ := qp (zx h2).1
 have hs := a8g hp
 rw [ho] at hs
 rw [oi (by omega)]
 exact vr (o5 hb).1 (a8w hs (xz (by omega)))
theorem a80 {z : Bool} {ps : List AS} {V : AS → Option Fd} {i : Nat} (h : i < ps.length) : (bif (z && (ps.take i).all (fun p => !vBo V p)) then !vBo V (ps.getD i default) else false) = (z && (ps.take (i + 1)).all (fun p => !vBo V p)) := by
 rw [a5o h, ← Bool.and_assoc]
 cases z && (ps.take i).all (fun p => !vBo V p) <;> rfl
theorem abg {z : Bool} {ps : List AS} {V : AS → Option Fd} {i : Nat} (h : i < ps.length) (hz : (z && (ps.take i).all (fun p => !vBo V p)) = false) : false = (z && (ps.take (i + 1)).all (fun p => !vBo V p)) := by
 rw [a5o h, ← Bool.and_assoc, hz]
 rfl
end Go.Hx
end
section
namespace Go.Hx
open Go.Proofs Go.Proofs.YtidophngianjiaaGreatDoor
open Go.RowKit Go.ChangeShapes Go.WideShapes Go.ChangeAt
theorem arc : RdB Tryz.prog 26 3 Mx.c fun b x => x.d.l.length ≤ b ∧ x.m.length ≤ b := by
 intro H enc w sp held fuel cs x h
 obtain ⟨hl, n, hf⟩ := a07 Tryz.underlying26 h
 obtain ⟨y0, e0⟩ := hf 0 _ rfl
 obtain ⟨y1, e1⟩ := hf 1 _ rfl
 obtain ⟨a0, b0, h0⟩ := ka (B := fun b (d : Dps) => d.l.length ≤ b) (fun _ _ _ h k => Nat.le_trans k h) aqw e0
 obtain ⟨a1, b1, h1⟩ := ka (B := fun b (l : List Dp) => l.length ≤ b) (fun _ _ _ h k => Nat.le_trans k h) aid e1
 refine ⟨hl.trans (by kernel_rfl), (⟨a0, a1⟩ : Mx), ⟨b0, b1⟩, fun j hj => ?_⟩
 match j, hj with
 | 0, _ => exact h0 0 (by omega)
 | 1, _ => exact h0 1 (by omega)
 | 2, _ => exact h1 0 (by omega)
def s2C (x : AS × AS) : Nat → PV
 | 0 => asC x.1
 | 1 => asC x.2
 | _ => .any
theorem ar4 : RdB Tryz.prog 54 2 s2C fun _ _ => True := by
 intro H enc w sp held fuel cs x h
 obtain ⟨hl, n, hf⟩ := ai8 Tryz.underlying54 h
 obtain ⟨y0, e0⟩ := hf 0 (by omega)
 obtain ⟨y1, e1⟩ := hf 1 (by omega)
 have hc : Tryz.prog.cellsOf 38 = 1 := by kernel_rfl
 obtain ⟨a0, _, h0⟩ := ka (off := 0) (fun _ _ _ _ _ => trivial) an9.toB (by simpa using e0)
 obtain ⟨a1, _, h1⟩ := ka (off := 1) (fun _ _ _ _ _ => trivial) an9.toB (by simpa [hc] using e1)
 refine ⟨hl.trans (by kernel_rfl), ((a0, a1) : AS × AS), trivial, fun j hj => ?_⟩
 match j, hj with
 | 0, _ => exact h0 0 (by omega)
 | 1, _ => exact h1 0 (by omega)
theorem apc : Tryz.prog.readableRec 26 = true ∧ 26 < Tryz.prog.types.size := ⟨by kernel_rfl, of_decide_eq_true (by kernel_rfl)⟩
theorem aq0 : Tryz.prog.readableRec 54 = true ∧ 54 < Tryz.prog.types.size := ⟨by kernel_rfl, of_decide_eq_true (by kernel_rfl)⟩
end Go.Hx
end
section
namespace Go.Hx
open Go.Proofs
set_option maxRecDepth 100000
def sT : List Rw := [[0, 1, 5], [0, 7, 2]]
def fdX : List Fd := [⟨1, 2⟩]
theorem a0t {x : Fd} {cl : Bool} {f : Nat → Nat → PV} (h0 : CoP (f 0 0) (x.c 0)) (h1 : CoP (f 0 1) (x.c 1)) : CoP (.sl 1 2 cl f) (fdl [x]) :=
 CoP.sl rfl (.inl rfl) (fun h => by cases h) fun i j hi hj => by
  obtain rfl : i = 0 := by omega
  rcases (by omega : j = 0 ∨ j = 1) with rfl | rfl
  · exact h0
  · exact h1
theorem a0n {s : Nat} {f : Nat → Nat → PV} : CoP (.sl 0 s true f) (fdl []) := CoP.sl rfl (.inr rfl) (fun h => by cases h) fun i j hi _ => absurd hi (Nat.not_lt_zero i)
end Go.Hx
end
