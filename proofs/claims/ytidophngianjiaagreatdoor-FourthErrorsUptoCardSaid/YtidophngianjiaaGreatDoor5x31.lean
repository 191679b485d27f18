/- A part of the proof: Y4 Y5. -/
import Derived.Test.YtidophngianjiaaGreatDoor5x23
import Derived.Test.YtidophngianjiaaGreatDoor5x27
import Derived.Test.YtidophngianjiaaGreatDoor5x28
import Derived.Test.YtidophngianjiaaGreatDoor5x30
set_option linter.all false
section
namespace Go.Hx
open Go.Proofs
set_option maxRecDepth 100000
set_option maxHeartbeats 1000000
theorem ab5 : goodFn Tryz.prog 16 := ⟨Tryz.f16, Tryz.func16, by kernel_rfl, by kernel_rfl⟩
theorem anz (a b : List AS) : ai Tryz.prog 16 [pP (asl a), pP (asl b)] (al [pB (decide (a = b))]) := by
 refine aj (nt := 26) ah Tryz.func16 rfl rfl l9 ?_; refine sx7 ?_; refine qy ?_; refine a6 ?_; (iterate 2 refine a7 ?_)
 refine en 0 rfl fun hn0 => ?_
 refine en 1 rfl fun hn1 => ?_
 refine gy ?_; (iterate 5 refine qy ?_); refine a6 ?_; refine a8 _ rfl (fun r0 => ?_) (fun r0 => ?_)
 ·
  have h0 := r0
  have h0 := of_decide_eq_false (b8 h0)
  try simp only [ty] at h0
  refine sx7 ?_; refine qy ?_; refine a6 ?_
  exact hx8 rfl rfl rfl (⟨ccb (decide_eq_false fun e => by subst e; omega).symm, trivial⟩)
 ·
  have h0 := r0
  have h0 := of_decide_eq_true (b7 h0)
  try simp only [ty] at h0
  refine aa ?_; refine a7 ?_; refine sx7 ?_; (iterate 3 refine qy ?_); refine a6 ?_; refine ab ?_
  refine ao (ι := Nat) ⟨[(0, some _), (1, some _), (12, some _)], []⟩ ⟨⟨c9, c9, c9, trivial⟩, trivial⟩ (fun i => ⟨[(13, some (vI i))], []⟩) (fun i => i ≤ a.length ∧ ∀ j, j < i → a.getD j default = b.getD j default) (fun i => a.length - i) (0) (⟨Nat.zero_le _, fun j hj => absurd hj (Nat.not_lt_zero j)⟩) ⟨⟨⟨_, rfl, (CoR.refl _)⟩, trivial⟩, trivial⟩ ?_
  rintro i ⟨hi, hI⟩
  refine sx7 ?_; refine qy ?_; refine a6 ?_; refine a7 ?_; refine a8 _ rfl (fun r1 => ?_) (fun r1 => ?_)
  ·
   have h1 := of_decide_eq_true r1
   try simp only [ty] at h1
   refine aa ?_; refine a7 ?_; refine ab ?_; refine sx7 ?_; (iterate 2 refine qy ?_); refine a6 ?_; refine a7 ?_; refine br (E := c6) ah bh [0, 1, 2, 3, 4, 5, 6, 7, 8] ?_
   (iterate 9 refine qy ?_); refine a6 ?_; refine ⟨by kernel_rfl, ?_⟩; refine a8 _ rfl (fun r2 => ?_) (fun r2 => ?_)
   ·
    have h2 := r2
    have h2 := of_decide_eq_false (b8 h2)
    try simp only [ty] at h2
    refine sx7 ?_; refine qy ?_; refine a6 ?_
    exact hx8 rfl rfl rfl (⟨ccb (decide_eq_false fun e => by subst e; exact absurd rfl (by assumption : ¬ asI _ = asI _)).symm, trivial⟩)
   ·
    have h2 := r2
    have h2 := of_decide_eq_true (b7 h2)
    try simp only [ty] at h2
    refine aa ?_; refine gy ?_; (iterate 2 refine qy ?_); refine a6 ?_; refine ⟨i + 1, ?_, ?_, ?_⟩
    · refine ⟨by omega, fun j hj => ?_⟩
      by_cases e : j = i
      · subst e; exact dp.1 (by assumption)
      · exact hI j (by omega)
    · first | omega | (dsimp only; omega)
    · exact ⟨⟨⟨_, rfl, (CoR.refl _)⟩, c9, c9, c9, trivial⟩, trivial⟩
  ·
   have h1 := of_decide_eq_false r1
   try simp only [ty] at h1
   obtain rfl : i = a.length := by omega
   refine ar ?_; refine sx7 ?_; refine qy ?_; refine a6 ?_
   exact hx8 rfl rfl rfl (⟨ccb (decide_eq_true (amf (by omega) hI)).symm, trivial⟩)
theorem ane : goodFn Tryz.prog 44 := ⟨Tryz.f44, Tryz.func44, by kernel_rfl, by kernel_rfl⟩
theorem alu (n : Int) (l : List Dp) (hl : l.length ≤ 16777216) : ai Tryz.prog 44 [pI n, pP (dpl l)] (al [pP (fdl (l.map (Dp.fd n)))]) := by
 refine aj (nt := 32) ah Tryz.func44 rfl rfl l9 ?_; refine sx7 ?_; refine qy ?_; refine a6 ?_; refine sx7 ?_; refine qy ?_; refine a6 ?_; refine sx7 ?_; (iterate 2 refine qy ?_)
 refine rc rfl rfl rfl rfl rfl rfl acg (aim n l hl) (CoL.refl _) rfl rfl ?_; refine qy ?_; refine a6 ?_; refine a7 ?_; refine sx7 ?_; refine qy ?_; refine a6 ?_; refine ab ?_
 refine gf 5 900 true 2 42 (lf Fd.c []) (by decide) rfl (CoP.sl rfl (.inr rfl) (fun h => h) (fun i j hi _ => absurd hi (Nat.not_lt_zero i))) (.inr rfl) rfl ?_
 have hll : (l.map (Dp.fd n)).length ≤ 16777216 := by rw [List.length_map]; exact hl
 refine ao (ι := Nat) ⟨[(6, some _)], []⟩ ⟨⟨c9, trivial⟩, trivial⟩ (fun i => ⟨[(5, some (.v (.one (.ref 900 ((l.map (Dp.fd n)).take i).length)))), (7, some (vI i))], [(900, some (.arr true 2 42 ((l.map (Dp.fd n)).take i).length (lf Fd.c ((l.map (Dp.fd n)).take i))))]⟩) (fun i => i ≤ (l.map (Dp.fd n)).length) (fun i => (l.map (Dp.fd n)).length - i) (0) (Nat.zero_le _) ⟨⟨⟨_, rfl, (CoR.refl _)⟩, ⟨_, rfl, (CoR.refl _)⟩, trivial⟩, ⟨u9, trivial⟩⟩ ?_
 rintro i hi
 have hlen : ((l.map (Dp.fd n)).take i).length ≤ i := by rw [List.length_take]; omega
 refine a7 ?_; refine sx7 ?_; (iterate 4 refine qy ?_); refine a6 ?_; refine a8 _ rfl (fun r0 => ?_) (fun r0 => ?_)
 ·
  have h0 := of_decide_eq_true r0
  try simp only [ty] at h0
  refine aa ?_; refine a7 ?_; refine ab ?_; refine br (E := c6) ah bh [0, 1, 2, 3, 4, 5, 6, 7, 8, 9, 10, 11, 12, 13, 14] ?_; (iterate 12 refine qy ?_); refine m9 0 ?_
  refine ra 1 true rfl rfl rfl rfl rfl rfl ?_; refine qy ?_; refine a6 ?_; refine ⟨by kernel_rfl, ?_⟩; refine gy ?_; (iterate 3 refine qy ?_); refine a6 ?_; refine ⟨i + 1, ?_, ?_, ?_⟩
  · show i + 1 ≤ _; omega
  · first | omega | (dsimp only; omega)
  · exact ⟨⟨⟨_, rfl, (fv (bg (by omega)))⟩, ⟨_, rfl, (CoR.refl _)⟩, c9, trivial⟩, ⟨⟨_, rfl, (yb (bg (by omega)) (CoP.refl _) (CoP.refl _))⟩, trivial⟩⟩
 ·
  have h0 := of_decide_eq_false r0
  try simp only [ty] at h0
  obtain rfl : i = (l.map (Dp.fd n)).length := by omega
  refine ar ?_; refine sx7 ?_; (iterate 2 refine qy ?_); refine a6 ?_; refine ce 4 rfl rfl rfl ?_
  exact hx8 rfl rfl rfl (⟨CoC.one (CoP.of_eq (by rw [List.take_length]; rfl)), trivial⟩)
theorem aoz : goodFn Tryz.prog 11 := ⟨Tryz.f11, Tryz.func11, by kernel_rfl, by kernel_rfl⟩
theorem aq6 (x : Mx) (hl : x.d.l.length ≤ 16777216) (hm : x.m.length ≤ 16777216) : ai Tryz.prog 11 [x.pc] (al [pI x.d.num, pP (fdl x.d.fds), pP (fdl x.mv), pB x.ok]) := by
 refine aj (nt := 29) ah Tryz.func11 rfl rfl l9 ?_; refine sx7 ?_; refine m9 0 ?_; (iterate 4 refine qy ?_); refine a6 ?_; refine sx7 ?_; (iterate 2 refine qy ?_)
 refine rc rfl rfl rfl rfl rfl rfl aoj (cOf x.d hl) (CoL.refl _) rfl rfl ?_; (iterate 7 refine qy ?_); refine a6 ?_; refine a7 ?_
 refine br (E := c6) ah bh [0, 1, 2, 3, 4, 5, 6, 7, 8, 9, 10, 11, 12, 13, 14, 15, 16] ?_; (iterate 5 refine qy ?_); refine rc rfl rfl rfl rfl rfl rfl ane (alu x.d.num x.m hm) (CoL.refl _) rfl rfl ?_
 (iterate 2 refine qy ?_); refine ca rfl rfl (fun r0 => ?_) (fun r0 => ?_)
 ·
  have h0 := r0
  (iterate 4 refine qy ?_ (hg := (gtt r0))); (iterate 5 refine qy ?_); refine a6 ?_; refine ⟨by kernel_rfl, ?_⟩
  exact hx8 rfl rfl rfl (⟨CoC.refl _, CoC.refl _, CoC.refl _, ccb (by unfold Mx.ok; try first | rfl | (rw [(by assumption : decide (x.d.l.length ≤ 6) = false), Bool.false_and]) | (rw [(by assumption : decide (x.d.l.length ≤ 6) = true), Bool.true_and]; exact decide_eq_decide.2 (by omega))), trivial⟩)
 ·
  have h0 := r0
  (iterate 4 refine k9 (gft r0) ?_); refine rq rfl rfl rfl rfl rfl ?_ (hp := r0); (iterate 4 refine qy ?_); refine a6 ?_; refine ⟨by kernel_rfl, ?_⟩
  exact hx8 rfl rfl rfl (⟨CoC.refl _, CoC.refl _, CoC.refl _, ccb (by unfold Mx.ok; try first | rfl | (rw [(by assumption : decide (x.d.l.length ≤ 6) = false), Bool.false_and]) | (rw [(by assumption : decide (x.d.l.length ≤ 6) = true), Bool.true_and]; exact decide_eq_decide.2 (by omega))), trivial⟩)
theorem aop : goodFn Tryz.prog 52 := ⟨Tryz.f52, Tryz.func52, by kernel_rfl, by kernel_rfl⟩
theorem anm (n : Int) (l m : List Fd) (a b : AS) : ai Tryz.prog 52 [pI n, pP (fdl l), pP (fdl m), pA a, pA b] (al [pI (ckB n l m (a ||| b))]) := by
 refine aj (nt := 29) ah Tryz.func52 rfl rfl l9 ?_; refine sx7 ?_; refine qy ?_; refine a6 ?_; refine a7 ?_; refine sx7 ?_; (iterate 3 refine qy ?_)
 refine rc rfl rfl rfl rfl rfl rfl ale (agw n l m) (CoL.refl _) rfl rfl ?_; refine qy ?_; refine a6 ?_; refine sx7 ?_; (iterate 2 refine qy ?_); refine a6 ?_; refine a8 _ rfl (fun r0 => ?_) (fun r0 => ?_)
 ·
  have h0 := r0
  have h0 := of_decide_eq_false (b8 h0)
  try simp only [ty] at h0
  refine sx7 ?_; (iterate 2 refine qy ?_); refine a6 ?_
  exact hx8 rfl rfl rfl (⟨cci (aa4 (by assumption)).symm, trivial⟩)
 ·
  have h0 := r0
  have h0 := of_decide_eq_true (b7 h0)
  try simp only [ty] at h0
  have hb : cj n l m = 0 := h0
  refine aa ?_; refine a7 ?_; refine sx7 ?_; (iterate 2 refine qy ?_); refine rc rfl rfl rfl rfl rfl rfl w4 (vw n a) (CoL.refl _) rfl rfl ?_; (iterate 2 refine qy ?_)
  refine ca rfl rfl (fun r1 => ?_) (fun r1 => ?_)
  ·
   have h1 := r1
   have h1 := b8 h1
   (iterate 4 refine k9 (gtf r1) ?_); refine rq rfl rfl rfl rfl rfl ?_ (hp := r1); refine a6 ?_; refine a8 _ rfl (fun _ => ?_) (fun e => by cases e); refine sx7 ?_; refine qy ?_; refine a6 ?_
   exact hx8 rfl rfl rfl (⟨cci (abo hb (by simp_all)).symm, trivial⟩)
  ·
   have h1 := r1
   have h1 := b7 h1
   (iterate 2 refine qy ?_ (hg := (gff r1))); refine rc rfl rfl rfl rfl rfl rfl w4 (vw n b) (CoL.refl _) rfl (gff r1) ?_; refine qy ?_ (hg := (gff r1)); refine qy ?_; refine a6 ?_
   refine a8 _ rfl (fun r2 => ?_) (fun r2 => ?_)
   ·
    have h2 := r2
    have h2 := cu r1 h2
    have h2 := b8 h2
    refine sx7 ?_; refine qy ?_; refine a6 ?_
    exact hx8 rfl rfl rfl (⟨cci (abo hb (by simp_all)).symm, trivial⟩)
   ·
    have h2 := r2
    have h2 := cu r1 h2
    have h2 := b7 h2
    refine aa ?_; refine sx7 ?_; refine qy ?_; refine a6 ?_
    exact hx8 rfl rfl rfl (⟨cci (amw hb (by simp_all) (by simp_all)).symm, trivial⟩)
theorem a5e : goodFn Tryz.prog 24 := ⟨Tryz.f24, Tryz.func24, by kernel_rfl, by kernel_rfl⟩
theorem a57 (n : Int) (l m : List Fd) (a b : AS) : ai Tryz.prog 24 [pI n, pP (fdl l), pP (fdl m), pA a, pA b] (al [pI (ck4 n l m (a ||| b))]) := by
 refine aj (nt := 23) ah Tryz.func24 rfl rfl l9 ?_; refine sx7 ?_; refine qy ?_; refine a6 ?_; refine a7 ?_; refine sx7 ?_; (iterate 3 refine qy ?_); refine ca rfl rfl (fun r0 => ?_) (fun r0 => ?_)
 ·
  have h0 := of_decide_eq_true r0
  try simp only [ty] at h0
  (iterate 2 refine k9 (gtf r0) ?_); refine rq rfl rfl rfl rfl rfl ?_ (hp := r0); refine a6 ?_; refine a8 _ rfl (fun _ => ?_) (fun e => by cases e); refine sx7 ?_; refine qy ?_; refine a6 ?_
  exact hx8 rfl rfl rfl (⟨cci (a3n (by omega)).symm, trivial⟩)
 ·
  have h0 := of_decide_eq_false r0
  try simp only [ty] at h0
  (iterate 2 refine qy ?_ (hg := (gff r0))); refine qy ?_; refine a6 ?_; refine a8 _ rfl (fun r1 => ?_) (fun r1 => ?_)
  ·
   have h1 := r1
   have h1 := cu r0 h1
   have h1 := of_decide_eq_true h1
   try simp only [ty] at h1
   refine sx7 ?_; refine qy ?_; refine a6 ?_
   exact hx8 rfl rfl rfl (⟨cci (a3n (by omega)).symm, trivial⟩)
  ·
   have h1 := r1
   have h1 := cu r0 h1
   have h1 := of_decide_eq_false h1
   try simp only [ty] at h1
   refine aa ?_; refine sx7 ?_; (iterate 5 refine qy ?_); refine rc rfl rfl rfl rfl rfl rfl aop (anm n l m a b) (CoL.refl _) rfl rfl ?_; refine qy ?_; refine a6 ?_
   exact hx8 rfl rfl rfl (⟨cci (oi (by omega)).symm, trivial⟩)
theorem ang : goodFn Tryz.prog 19 := ⟨Tryz.f19, Tryz.func19, by kernel_rfl, by kernel_rfl⟩
theorem afc (n : Int) (l m : List Fd) (ps : List AS) : ai Tryz.prog 19 [pI n, pP (fdl l), pP (fdl m), pP (asl ps)] (al [pB (a2a n l m ps), pI (a9k n l m ps)]) := by
 refine aj (nt := 61) ah Tryz.func19 rfl rfl l9 ?_; refine sx7 ?_; (iterate 2 refine qy ?_); refine a6 ?_; refine a7 ?_; refine sx7 ?_; (iterate 3 refine qy ?_)
 refine rc rfl rfl rfl rfl rfl rfl uk (qq n l m 0) (CoL.refl _) rfl rfl ?_; refine qy ?_; refine a6 ?_; refine sx7 ?_; (iterate 2 refine qy ?_); refine a6 ?_; refine a8 _ rfl (fun r0 => ?_) (fun r0 => ?_)
 ·
  have h0 := r0
  have h0 := of_decide_eq_false (b8 h0)
  try simp only [ty] at h0
  refine sx7 ?_; (iterate 3 refine qy ?_); refine a6 ?_; refine bi ?_; refine ⟨.inr rfl, ?_⟩
  obtain ⟨e1, e2⟩ := a9d (ps := ps) (by assumption : ¬ ck4 n l m 0 = 0)
  exact f9 rfl rfl (⟨ccb e2.symm, cci e1.symm, trivial⟩)
 ·
  have h0 := r0
  have h0 := of_decide_eq_true (b7 h0)
  try simp only [ty] at h0
  have hz : ck4 n l m 0 = 0 := h0
  refine aa ?_; refine sx7 ?_; (iterate 4 refine qy ?_); refine rc rfl rfl rfl rfl rfl rfl amo (aqq n ps l m) (CoL.refl _) rfl rfl ?_; (iterate 5 refine qy ?_); refine a6 ?_; refine a7 ?_; refine sx7 ?_
  (iterate 2 refine qy ?_); refine a6 ?_; refine a8 _ rfl (fun r1 => ?_) (fun r1 => ?_)
  ·
   have h1 := r1
   have h1 := of_decide_eq_false (b8 h1)
   try simp only [ty] at h1
   refine sx7 ?_; (iterate 3 refine qy ?_); refine a6 ?_; refine bi ?_; refine ⟨.inr rfl, ?_⟩
   obtain ⟨e1, e2⟩ := apz hz (by assumption : ¬ lsC n ps l m = 0)
   exact f9 rfl rfl (⟨ccb e2.symm, cci e1.symm, trivial⟩)
  ·
   have h1 := r1
   have h1 := of_decide_eq_true (b7 h1)
   try simp only [ty] at h1
   have hc : lsC n ps l m = 0 := h1
   have hps := (qp (zx hc).1).2.2.1
   refine aa ?_; refine a7 ?_; refine sx7 ?_; (iterate 3 refine qy ?_); refine a6 ?_; refine ab ?_
   refine ao (ι := Nat) ⟨[(0, some _), (1, some _), (2, some _), (36, some _), (37, some _)], []⟩ ⟨⟨c9, c9, c9, c9, c9, trivial⟩, trivial⟩ (fun i => ⟨[(11, some (vB (lsB n ps l m && (ps.take i).all (fun p => !vBo (fm n l m) p)))), (38, some (vI i))], []⟩) (fun i => i ≤ ps.length) (fun i => ps.length - i) (0) (Nat.zero_le _) ⟨⟨⟨_, rfl, (cob (by simp))⟩, ⟨_, rfl, (CoR.refl _)⟩, trivial⟩, trivial⟩ ?_
   rintro i hi
   refine sx7 ?_; refine qy ?_; refine a6 ?_; refine a7 ?_; refine a8 _ rfl (fun r2 => ?_) (fun r2 => ?_)
   ·
    have h2 := of_decide_eq_true r2
    try simp only [ty] at h2
    have hil : i < ps.length := by omega
    have hp : ck4 n l m (ps.getD i default) = 0 := alh hz hc (lz hil)
    refine aa ?_; refine a7 ?_; refine ab ?_; refine sx7 ?_; (iterate 3 refine qy ?_); refine a6 ?_; refine sx7 ?_; (iterate 4 refine qy ?_)
    refine rc rfl rfl rfl rfl rfl rfl nv (a3q (p := (ps.getD i default)) hp) (CoL.refl _) rfl rfl ?_; (iterate 4 refine qy ?_); refine m9 0 ?_; refine s9 ?_; (iterate 2 refine qy ?_); refine a6 ?_; refine a7 ?_
    refine sx7 ?_; (iterate 2 refine qy ?_); refine a6 ?_; refine a8 _ rfl (fun e => by cases e) (fun _ => ?_); refine aa ?_; refine gy ?_; (iterate 2 refine qy ?_)
    refine ca rfl rfl (fun r3 => ?_) (fun r3 => ?_)
    ·
     have h3 := r3
     (iterate 2 refine qy ?_ (hg := (gtt r3))); (iterate 2 refine qy ?_); refine a6 ?_; refine gy ?_; (iterate 2 refine qy ?_); refine a6 ?_; refine ⟨i + 1, ?_, ?_, ?_⟩
     · show i + 1 ≤ _; omega
     · first | omega | (dsimp only; omega)
     · exact ⟨⟨⟨_, rfl, (by first | exact cob (a80 hil) | exact cob (abg hil (by assumption)))⟩, ⟨_, rfl, (CoR.refl _)⟩, c9, c9, c9, c9, c9, trivial⟩, trivial⟩
    ·
     have h3 := r3
     (iterate 2 refine k9 (gft r3) ?_); refine rq rfl rfl rfl rfl rfl ?_ (hp := r3); refine qy ?_; refine a6 ?_; refine gy ?_; (iterate 2 refine qy ?_); refine a6 ?_; refine ⟨i + 1, ?_, ?_, ?_⟩
     · show i + 1 ≤ _; omega
     · first | omega | (dsimp only; omega)
     · exact ⟨⟨⟨_, rfl, (by first | exact cob (a80 hil) | exact cob (abg hil (by assumption)))⟩, ⟨_, rfl, (CoR.refl _)⟩, c9, c9, c9, c9, c9, trivial⟩, trivial⟩
   ·
    have h2 := of_decide_eq_false r2
    try simp only [ty] at h2
    obtain rfl : i = ps.length := by omega
    refine ar ?_; refine sx7 ?_; (iterate 3 refine qy ?_); refine a6 ?_; refine bi ?_; refine ⟨.inr rfl, ?_⟩
    obtain ⟨e1, e2⟩ := apg hz hc
    exact f9 rfl rfl (⟨ccb (by rw [e2, List.take_length]), cci e1.symm, trivial⟩)
theorem apf : ai Tryz.prog 26 [pI 3, pP (fdl []), pP (fdl [⟨1, 2⟩]), pA 7] (al [Fd.pc ⟨1, 2⟩, pB true, pI 0]) := by
 have h := a3m 3 [] [⟨1, 2⟩] 7
 rw [amy.1, amy.2] at h
 exact h
theorem apy : ai Tryz.prog 13 [pI 3, pP (fdl []), pP (fdl [⟨1, 2⟩])] (al [pP (asl [3, 5]), pI 0]) := by
 have h := a9a 3 [] [⟨1, 2⟩]
 rw [ap4.1, ap4.2] at h
 exact h
theorem anp : ai Tryz.prog 26 [pI 3, pP (fdl [⟨2, 4⟩]), pP (fdl []), pA 7] (al [Fd.pc ⟨2, 1⟩, pB true, pI 0]) := by
 have h := a3m 3 [⟨2, 4⟩] [] 7
 rw [an1.1, an1.2] at h
 exact h
theorem ao1 : ai Tryz.prog 13 [pI 3, pP (fdl [⟨2, 4⟩]), pP (fdl [])] (al [pP (asl [3, 6]), pI 0]) := by
 have h := a9a 3 [⟨2, 4⟩] []
 rw [an8.1, an8.2] at h
 exact h
theorem aqz : ai Tryz.prog 16 [pP (asl [3, 5]), pP (asl [3, 5])] (al [pB true]) := by
 have h := anz [3, 5] [3, 5]
 rw [decide_eq_true rfl] at h
 exact h
theorem arj : ai Tryz.prog 16 [pP (asl [3, 6]), pP (asl [3, 6])] (al [pB true]) := by
 have h := anz [3, 6] [3, 6]
 rw [decide_eq_true rfl] at h
 exact h
theorem adu : goodFn Tryz.prog 12 := ⟨Tryz.f12, Tryz.func12, by kernel_rfl, by kernel_rfl⟩
theorem a51  : ai Tryz.prog 12 [] (al [pB true]) := by
 refine aj (nt := 80) ah Tryz.func12 rfl rfl l9 ?_; refine sx7 ?_; refine qy ?_; refine a6 ?_; refine sx7 ?_; refine qy ?_; refine m9 0 ?_; refine qy ?_; refine a6 ?_; refine ce 1 rfl rfl rfl ?_
 refine sx7 ?_; refine qy ?_; refine rc rfl rfl rfl rfl rfl rfl nv (apf) (⟨CoC.refl _, CoC.one a0n, CoC.one (a0t (CoP.refl _) (CoP.refl _)), CoC.refl _, trivial⟩) rfl rfl ?_; (iterate 4 refine qy ?_); refine m9 1 ?_
 refine s9 ?_; (iterate 2 refine qy ?_); refine a6 ?_; refine sx7 ?_; refine qy ?_; refine rc rfl rfl rfl rfl rfl rfl a5b (apy) (⟨CoC.refl _, CoC.one a0n, CoC.one (a0t (CoP.refl _) (CoP.refl _)), trivial⟩) rfl rfl ?_
 (iterate 5 refine qy ?_); refine a6 ?_; refine a7 ?_; refine zu [0, 1] [2, 3, 4, 5, 6, 7, 8, 9, 10] rfl ?_; refine a0l (E := c6) ah ?_; refine qy ?_; refine m9 2 ?_; refine a6 ?_; refine ais ?_
 refine a2s 27 rfl rfl rfl ?_; refine a7w ?_; refine a0l (E := c6) (L1 := [2, 3, 4, 5, 6, 7, 8, 9, 10]) (L2 := []) ah ?_
 refine rc rfl rfl rfl rfl rfl rfl nv (anp) (⟨CoC.refl _, CoC.one (a0t (CoP.refl _) (CoP.refl _)), CoC.one a0n, CoC.refl _, trivial⟩) rfl rfl ?_; (iterate 4 refine qy ?_); refine m9 3 ?_; refine s9 ?_
 (iterate 2 refine qy ?_); refine a6 ?_; refine adi ?_; refine a7 ?_; refine zu [0, 1] [2, 3, 4, 5, 6, 7] rfl ?_; refine a0l (E := c6) ah ?_; refine qy ?_; refine m9 4 ?_; refine a6 ?_
 refine ais ?_; refine a2s 34 rfl rfl rfl ?_; refine a7w ?_; refine a0l (E := c6) (L1 := [2, 3, 4, 5, 6, 7]) (L2 := []) ah ?_
 refine rc rfl rfl rfl rfl rfl rfl a5b (ao1) (⟨CoC.refl _, CoC.one (a0t (CoP.refl _) (CoP.refl _)), CoC.one a0n, trivial⟩) rfl rfl ?_; (iterate 5 refine qy ?_); refine a6 ?_; refine adi ?_; refine a7 ?_
 refine br (E := c6) ah bh [0, 1, 2, 3, 4, 5, 6, 7, 8, 9, 10, 11, 12, 13, 14, 15, 16, 17, 18, 19, 20, 21, 22, 23, 24, 25, 26, 27, 28, 29, 30, 31, 32, 33, 34, 35, 36, 37, 38, 39, 40, 41, 42] ?_
 (iterate 18 refine qy ?_); refine m9 5 ?_
 refine d5 rfl rfl rfl rfl rfl rfl ab5 (ai.eat (hcs := [.one (.p (asl [3, 5])), .one (.ref 5 2)]) (o1 := [(5, .arr true 1 38 2 (lf sC [3, 5]))]) (aqz) rfl (by (repeat' apply And.intro) <;> first | trivial | rfl) (CoL.refl _)) (ek.refl _) ⟨⟨_, rfl, (a5j (CoP.refl _) (CoP.refl _))⟩, trivial⟩ rfl rfl ?_
 (iterate 19 refine qy ?_); refine m9 6 ?_
 refine d5 rfl rfl rfl rfl rfl rfl ab5 (ai.eat (hcs := [.one (.p (asl [3, 6])), .one (.ref 6 2)]) (o1 := [(6, .arr true 1 38 2 (lf sC [3, 6]))]) (arj) rfl (by (repeat' apply And.intro) <;> first | trivial | rfl) (CoL.refl _)) (ek.refl _) ⟨⟨_, rfl, (a5j (CoP.refl _) (CoP.refl _))⟩, trivial⟩ rfl rfl ?_
 (iterate 2 refine qy ?_); refine a6 ?_; refine ⟨by kernel_rfl, ?_⟩
 exact hx8 rfl rfl rfl (CoL.refl _)
end Go.Hx
end
section
namespace Go.Hx
open Go.Proofs
set_option maxRecDepth 100000
set_option maxHeartbeats 1000000
theorem ao7 (a : AS) : a ||| 0 = a := by simp
theorem al6 (n : Int) (l m : List Fd) : ai Tryz.prog 24 [pI n, pP (fdl l), pP (fdl m), pA 0, pA 0] (al [pI (ck4 n l m 0)]) := by
 have h := a57 n l m 0 0
 rw [ao7] at h
 exact h
theorem alj (n : Int) (l m : List Fd) (a : AS) : ai Tryz.prog 24 [pI n, pP (fdl l), pP (fdl m), pA a, pA 0] (al [pI (ck4 n l m a)]) := by
 have h := a57 n l m a 0
 rw [ao7] at h
 exact h
theorem apr {n : Int} {l m : List Fd} (hz : ¬ ck4 n l m 0 = 0) : ai Tryz.prog 25 [pI n, pP (fdl l), pP (fdl m)] (al [pB false, pI (ck4 n l m 0)]) := by
 have h := arf n l m
 rw [show is4 n l m = false from if_neg hz] at h
 exact h
theorem aoe {n : Int} {l m : List Fd} (hz : ¬ ck4 n l m 0 = 0) : ai Tryz.prog 13 [pI n, pP (fdl l), pP (fdl m)] (al [pP (asl []), pI (ck4 n l m 0)]) := by
 have h := a9a n l m
 rw [ab6 hz] at h
 exact h
theorem aes {n : Int} {l m : List Fd} {ps : List AS} (hz : ¬ ck4 n l m 0 = 0) : ai Tryz.prog 19 [pI n, pP (fdl l), pP (fdl m), pP (asl ps)] (al [pB false, pI (ck4 n l m 0)]) := by
 have h := afc n l m ps
 rw [(a9d hz).1, (a9d hz).2] at h
 exact h
theorem adm {n : Int} {l m : List Fd} {p : AS} (hz : ¬ ck4 n l m p = 0) : ai Tryz.prog 26 [pI n, pP (fdl l), pP (fdl m), pA p] (al [Fd.pc ⟨0, 0⟩, pB false, pI (ck4 n l m p)]) := by
 have h := a3m n l m p
 rw [ab7 hz] at h
 exact h
theorem a0s {n : Int} {l m : List Fd} {x p : AS} (hz : ¬ ck4 n l m (x ||| p) = 0) : ai Tryz.prog 27 [pI n, pP (fdl l), pP (fdl m), pA x, pA p] (al [pP (asl []), pI (ck4 n l m (x ||| p))]) := by
 have h := aj4 n l m x p
 rw [show aa6 n l m x p = [] from if_neg hz] at h
 exact h
theorem ao3 {s : Nat} {f : Nat → Nat → PV} : CoP (.sl 0 s true f) (asl []) := CoP.sl rfl (.inr rfl) (fun h => by cases h) fun i j hi _ => absurd hi (Nat.not_lt_zero i)
theorem aos (n : Int) (x : Mx) (a b : AS) (hl : x.d.l.length ≤ 16777216) (hm : x.m.length ≤ 16777216) : ai Tryz.prog 5 [pI n, x.pc, .agg [asC a, asC b]] (al [pB true]) := by
 refine aj (nt := 148) ah Tryz.func5 rfl rfl l9 ?_; refine sx7 ?_; refine m9 0 ?_; refine m9 1 ?_; refine qy ?_; refine a6 ?_; refine sx7 ?_; refine qy ?_
 refine rc rfl rfl rfl rfl rfl rfl aoz (aq6 x hl hm) (CoL.refl _) rfl rfl ?_; (iterate 9 refine qy ?_); refine a6 ?_; refine a7 ?_; refine sx7 ?_
 refine rc rfl rfl rfl rfl rfl rfl adu (a51) (CoL.refl _) rfl rfl ?_; (iterate 5 refine qy ?_); refine a6 ?_; refine a8 _ rfl (fun r0 => ?_) (fun r0 => ?_)
 ·
  have h0 := r0
  have h0 := b8 h0
  refine sx7 ?_; refine rc rfl rfl rfl rfl rfl rfl adu (a51) (CoL.refl _) rfl rfl ?_; refine qy ?_; refine a6 ?_
  exact hx8 rfl rfl rfl (⟨ccb (by first | rfl | exact decide_eq_true rfl), trivial⟩)
 ·
  have h0 := r0
  have h0 := b7 h0
  refine aa ?_; refine a7 ?_; refine br (E := c6) ah bh [0, 1, 2, 3, 4, 5, 6, 7, 8, 9, 10, 11, 12, 13, 14, 15, 16, 17, 18, 19, 20] ?_; (iterate 3 refine qy ?_)
  refine rc rfl rfl rfl rfl rfl rfl a5e (al6 n x.d.fds x.mv) (CoL.refl _) rfl rfl ?_; (iterate 5 refine qy ?_); refine rc rfl rfl rfl rfl rfl rfl a5e (alj n x.d.fds x.mv a) (CoL.refl _) rfl rfl ?_
  (iterate 7 refine qy ?_); refine rc rfl rfl rfl rfl rfl rfl a5e (a57 n x.d.fds x.mv a b) (CoL.refl _) rfl rfl ?_; (iterate 3 refine qy ?_); refine a6 ?_; refine ⟨by kernel_rfl, ?_⟩; refine a7 ?_; refine sx7 ?_
  (iterate 2 refine qy ?_); refine a6 ?_; refine a8 _ rfl (fun r1 => ?_) (fun r1 => ?_)
  ·
   have h1 := r1
   have h1 := of_decide_eq_false (b8 h1)
   try simp only [ty] at h1
   have hp : ¬ ck4 n x.d.fds x.mv 0 = 0 := h1
   refine sx7 ?_; (iterate 3 refine qy ?_); refine rc rfl rfl rfl rfl rfl rfl an7 (apr hp) (CoL.refl _) rfl rfl ?_; (iterate 5 refine qy ?_); refine a6 ?_; refine sx7 ?_; (iterate 3 refine qy ?_)
   refine rc rfl rfl rfl rfl rfl rfl a5b (aoe hp) (CoL.refl _) rfl rfl ?_; (iterate 5 refine qy ?_); refine a6 ?_; refine sx7 ?_; (iterate 3 refine qy ?_)
   refine rc rfl rfl rfl rfl rfl rfl ang (aes (ps := []) hp) (⟨CoC.refl _, CoC.refl _, CoC.refl _, CoC.one ao3, trivial⟩) rfl rfl ?_; (iterate 5 refine qy ?_); refine a6 ?_; refine sx7 ?_
   (iterate 15 refine qy ?_); refine ca rfl rfl (fun r2 => ?_) (fun r2 => ?_)
   ·
    have h2 := r2
    have h2 := of_decide_eq_false (b8 h2)
    try simp only [ty] at h2
    exact absurd trivial h2
   ·
    have h2 := r2
    have h2 := of_decide_eq_true (b7 h2)
    try simp only [ty] at h2
    (iterate 3 refine qy ?_ (hg := (gff r2))); (iterate 2 refine qy ?_); refine ca rfl rfl (fun r3 => ?_) (fun r3 => ?_)
    ·
     have h3 := r3
     have h3 := cu r2 h3
     have h3 := of_decide_eq_false (b8 h3)
     try simp only [ty] at h3
     exact absurd trivial h3
    ·
     have h3 := r3
     have h3 := cu r2 h3
     have h3 := of_decide_eq_true (b7 h3)
     try simp only [ty] at h3
     (iterate 3 refine qy ?_ (hg := (gff r3))); refine qy ?_; refine a6 ?_; refine a8 _ rfl (fun r4 => ?_) (fun r4 => ?_)
     ·
      have h4 := r4
      have h4 := cu r3 h4
      have h4 := of_decide_eq_false (b8 h4)
      try simp only [ty] at h4
      exact absurd trivial h4
     ·
      have h4 := r4
      have h4 := cu r3 h4
      have h4 := of_decide_eq_true (b7 h4)
      try simp only [ty] at h4
      refine aa ?_; refine a7 ?_; refine sx7 ?_; (iterate 2 refine qy ?_); refine a6 ?_; refine a8 _ rfl (fun r5 => ?_) (fun r5 => ?_)
      ·
       have h5 := r5
       have h5 := of_decide_eq_false (b8 h5)
       try simp only [ty] at h5
       have ho : ¬ ck4 n x.d.fds x.mv a = 0 := h5
       refine sx7 ?_; (iterate 5 refine qy ?_); refine rc rfl rfl rfl rfl rfl rfl nv (adm ho) (CoL.refl _) rfl rfl ?_; (iterate 4 refine qy ?_); refine m9 2 ?_; refine s9 ?_; (iterate 2 refine qy ?_); refine a6 ?_
       refine sx7 ?_; (iterate 11 refine qy ?_); refine a6 ?_; refine a8 _ rfl (fun r6 => ?_) (fun r6 => ?_)
       ·
        have h6 := r6
        have h6 := of_decide_eq_false (b8 h6)
        try simp only [ty] at h6
        exact absurd trivial h6
       ·
        have h6 := r6
        have h6 := of_decide_eq_true (b7 h6)
        try simp only [ty] at h6
        refine aa ?_; refine a7 ?_; refine sx7 ?_; (iterate 2 refine qy ?_); refine a6 ?_; refine a8 _ rfl (fun r7 => ?_) (fun r7 => ?_)
        ·
         have h7 := of_decide_eq_true r7
         try simp only [ty] at h7
         refine sx7 ?_; refine qy ?_; refine a6 ?_
         exact hx8 rfl rfl rfl (⟨ccb (by first | rfl | exact decide_eq_true rfl), trivial⟩)
        ·
         have h7 := of_decide_eq_false r7
         try simp only [ty] at h7
         have ht : ¬ ck4 n x.d.fds x.mv (a ||| b) = 0 := h7
         refine aa ?_; refine sx7 ?_; (iterate 7 refine qy ?_); refine rc rfl rfl rfl rfl rfl rfl uq (a0s ht) (CoL.refl _) rfl rfl ?_; (iterate 5 refine qy ?_); refine a6 ?_; refine sx7 ?_
         (iterate 9 refine qy ?_); refine a6 ?_
         exact hx8 rfl rfl rfl (⟨ccb (decide_eq_true rfl), trivial⟩)
      ·
       have h5 := r5
       have h5 := of_decide_eq_true (b7 h5)
       try simp only [ty] at h5
       refine aa ?_; refine a7 ?_; refine sx7 ?_; (iterate 2 refine qy ?_); refine a6 ?_; refine a8 _ rfl (fun r8 => ?_) (fun r8 => ?_)
       ·
        have h8 := of_decide_eq_true r8
        try simp only [ty] at h8
        refine sx7 ?_; refine qy ?_; refine a6 ?_
        exact hx8 rfl rfl rfl (⟨ccb (by first | rfl | exact decide_eq_true rfl), trivial⟩)
       ·
        have h8 := of_decide_eq_false r8
        try simp only [ty] at h8
        have ht : ¬ ck4 n x.d.fds x.mv (a ||| b) = 0 := h8
        refine aa ?_; refine sx7 ?_; (iterate 7 refine qy ?_); refine rc rfl rfl rfl rfl rfl rfl uq (a0s ht) (CoL.refl _) rfl rfl ?_; (iterate 5 refine qy ?_); refine a6 ?_; refine sx7 ?_
        (iterate 9 refine qy ?_); refine a6 ?_
        exact hx8 rfl rfl rfl (⟨ccb (decide_eq_true rfl), trivial⟩)
  ·
   have h1 := r1
   have h1 := of_decide_eq_true (b7 h1)
   try simp only [ty] at h1
   refine aa ?_; refine a7 ?_; refine sx7 ?_; (iterate 2 refine qy ?_); refine a6 ?_; refine a8 _ rfl (fun r9 => ?_) (fun r9 => ?_)
   ·
    have h9 := r9
    have h9 := of_decide_eq_false (b8 h9)
    try simp only [ty] at h9
    have ho : ¬ ck4 n x.d.fds x.mv a = 0 := h9
    refine sx7 ?_; (iterate 5 refine qy ?_); refine rc rfl rfl rfl rfl rfl rfl nv (adm ho) (CoL.refl _) rfl rfl ?_; (iterate 4 refine qy ?_); refine m9 3 ?_; refine s9 ?_; (iterate 2 refine qy ?_); refine a6 ?_
    refine sx7 ?_; (iterate 11 refine qy ?_); refine a6 ?_; refine a8 _ rfl (fun r10 => ?_) (fun r10 => ?_)
    ·
     have h10 := r10
     have h10 := of_decide_eq_false (b8 h10)
     try simp only [ty] at h10
     exact absurd trivial h10
    ·
     have h10 := r10
     have h10 := of_decide_eq_true (b7 h10)
     try simp only [ty] at h10
     refine aa ?_; refine a7 ?_; refine sx7 ?_; (iterate 2 refine qy ?_); refine a6 ?_; refine a8 _ rfl (fun r11 => ?_) (fun r11 => ?_)
     ·
      have h11 := of_decide_eq_true r11
      try simp only [ty] at h11
      refine sx7 ?_; refine qy ?_; refine a6 ?_
      exact hx8 rfl rfl rfl (⟨ccb (by first | rfl | exact decide_eq_true rfl), trivial⟩)
     ·
      have h11 := of_decide_eq_false r11
      try simp only [ty] at h11
      have ht : ¬ ck4 n x.d.fds x.mv (a ||| b) = 0 := h11
      refine aa ?_; refine sx7 ?_; (iterate 7 refine qy ?_); refine rc rfl rfl rfl rfl rfl rfl uq (a0s ht) (CoL.refl _) rfl rfl ?_; (iterate 5 refine qy ?_); refine a6 ?_; refine sx7 ?_
      (iterate 9 refine qy ?_); refine a6 ?_
      exact hx8 rfl rfl rfl (⟨ccb (decide_eq_true rfl), trivial⟩)
   ·
    have h9 := r9
    have h9 := of_decide_eq_true (b7 h9)
    try simp only [ty] at h9
    refine aa ?_; refine a7 ?_; refine sx7 ?_; (iterate 2 refine qy ?_); refine a6 ?_; refine a8 _ rfl (fun r12 => ?_) (fun r12 => ?_)
    ·
     have h12 := of_decide_eq_true r12
     try simp only [ty] at h12
     refine sx7 ?_; refine qy ?_; refine a6 ?_
     exact hx8 rfl rfl rfl (⟨ccb (by first | rfl | exact decide_eq_true rfl), trivial⟩)
    ·
     have h12 := of_decide_eq_false r12
     try simp only [ty] at h12
     have ht : ¬ ck4 n x.d.fds x.mv (a ||| b) = 0 := h12
     refine aa ?_; refine sx7 ?_; (iterate 7 refine qy ?_); refine rc rfl rfl rfl rfl rfl rfl uq (a0s ht) (CoL.refl _) rfl rfl ?_; (iterate 5 refine qy ?_); refine a6 ?_; refine sx7 ?_; (iterate 9 refine qy ?_)
     refine a6 ?_
     exact hx8 rfl rfl rfl (⟨ccb (decide_eq_true rfl), trivial⟩)
end Go.Hx
end
