/- A part of the proof: Rbm W3. -/
import Derived.Test.YtidophngianjiaaGreatDoor7x26
import Derived.Test.YtidophngianjiaaGreatDoor7x27
import Derived.Test.YtidophngianjiaaGreatDoor7x37
set_option linter.all false
section
namespace Go.Hx
open Go.Proofs Go.Proofs.YtidophngianjiaaGreatDoor
open Go.RowKit Go.ChangeShapes Go.WideShapes Go.ChangeAt
theorem rd5 : Rd Tryz.prog 5 1 u8C := (b00 Tryz.underlying5).co (fun u => u.toBitVec) fun a j hj => CoP.refl _
theorem b0h : Rd Tryz.prog 136 2 Dp.c := by
 intro H enc w sp held fuel cs x h
 obtain ⟨hl, n, hf⟩ := aia Tryz.underlying136 h
 obtain ⟨y0, e0⟩ := hf 0 _ rfl
 obtain ⟨y1, e1⟩ := hf 1 _ rfl
 obtain ⟨a0, h0⟩ := a9k rd5 e0
 obtain ⟨a1, h1⟩ := a9k rd5 e1
 refine ⟨hl.trans (by kernel_rfl), (⟨a0, a1⟩ : Dp), fun j hj => ?_⟩
 match j, hj with
 | 0, _ => exact h0 0 (by omega)
 | 1, _ => exact h1 0 (by omega)
theorem azx : RdB Tryz.prog 22 1 (ann 2 Dp.c) fun b l => l.length ≤ b :=
 (a74 (B := fun _ _ => True) (fun _ _ _ _ _ => trivial) Tryz.underlying22 (by kernel_rfl) (by omega) b0h.toB).co id (fun b a h => h.1) fun a j hj => CoP.refl _
theorem b1y : RdB Tryz.prog 24 2 Dps.c fun b d => d.l.length ≤ b := by
 intro H enc w sp held fuel cs x h
 obtain ⟨hl, n, hf⟩ := aeq Tryz.underlying24 h
 obtain ⟨y0, e0⟩ := hf 0 _ rfl
 obtain ⟨y1, e1⟩ := hf 1 _ rfl
 obtain ⟨a0, _, h0⟩ := a6k (fun _ _ _ _ _ => trivial) rd5.toB e0
 obtain ⟨a1, hb, h1⟩ := a6k (B := fun b (l : List Dp) => l.length ≤ b) (fun _ _ _ h k => Nat.le_trans k h) azx e1
 refine ⟨hl.trans (by kernel_rfl), (⟨a0, a1⟩ : Dps), hb, fun j hj => ?_⟩
 match j, hj with
 | 0, _ => exact h0 0 (by omega)
 | 1, _ => exact h1 0 (by omega)
theorem b23 : RdB Tryz.prog 49 1 (ann 1 u8C) fun b l => l.length ≤ b :=
 (a74 (B := fun _ _ => True) (fun _ _ _ _ _ => trivial) Tryz.underlying49 (by kernel_rfl) (by omega) rd5.toB).co id (fun b a h => h.1) fun a j hj => CoP.refl _
theorem b12 : Tryz.prog.readableRec 24 = true ∧ 24 < Tryz.prog.types.size := ⟨by kernel_rfl, of_decide_eq_true (by kernel_rfl)⟩
theorem b01 : Tryz.prog.readableRec 49 = true ∧ 49 < Tryz.prog.types.size := ⟨by kernel_rfl, of_decide_eq_true (by kernel_rfl)⟩
end Go.Hx
end
section
namespace Go.Hx
open Go.Proofs
set_option maxRecDepth 100000
set_option maxHeartbeats 1000000
theorem az1 (d : Dps) (qs : List (BitVec 8)) (hl : d.l.length ≤ 16777216) : aj Tryz.prog 7 [d.pc, pP (psl 1 u8C qs)] (aq [pB true]) := by
 refine ag (nt := 67) af Tryz.func7 rfl rfl l9 ?_; refine a7 ?_
 refine ce 1 rfl fun hn => ?_
 refine gy ?_; refine m9 0 ?_; refine qy ?_; refine a6 ?_; refine sx7 ?_; refine qy ?_; refine rc rfl rfl rfl rfl rfl rfl az2 (cOf d hl) (CoL.refl _) rfl rfl ?_; (iterate 7 refine qy ?_); refine a6 ?_; refine a7 ?_
 refine sx7 ?_; refine rc rfl rfl rfl rfl rfl rfl a94 (aaj) (CoL.refl _) rfl rfl ?_; (iterate 6 refine qy ?_); refine bh rfl rfl (fun r0 => ?_) (fun r0 => ?_)
 ·
  have h0 := r0
  have h0 := az h0
  (iterate 3 refine k9 (gtf r0) ?_); refine rq rfl rfl rfl rfl rfl ?_ (hp := r0); refine a6 ?_; refine a8 _ rfl (fun _ => ?_) (fun e => by cases e); refine sx7 ?_
  refine rc rfl rfl rfl rfl rfl rfl a94 (aaj) (CoL.refl _) rfl rfl ?_; refine qy ?_; refine a6 ?_
  exact hx8 rfl rfl rfl (CoL.refl _)
 ·
  have h0 := r0
  have h0 := b4 h0
  (iterate 3 refine qy ?_ (hg := (gff r0))); refine qy ?_; refine a6 ?_; refine a8 _ rfl (fun r1 => ?_) (fun r1 => ?_)
  ·
   have h1 := r1
   have h1 := bo r0 h1
   have h1 := of_decide_eq_true h1
   try simp only [ty] at h1
   refine sx7 ?_; refine rc rfl rfl rfl rfl rfl rfl a94 (aaj) (CoL.refl _) rfl rfl ?_; refine qy ?_; refine a6 ?_
   exact hx8 rfl rfl rfl (CoL.refl _)
  ·
   have h1 := r1
   have h1 := bo r0 h1
   have h1 := of_decide_eq_false h1
   try simp only [ty] at h1
   have h8 : qs.length ≤ 8 := by first | omega | (simp_all; omega)
   refine aa ?_; refine sx7 ?_; refine qy ?_; refine a6 ?_
   refine dl 8 900 true 1 38 (lf sC []) (by decide) rfl (CoP.sl rfl (.inr rfl) (fun h => h) (fun i j hi _ => absurd hi (Nat.not_lt_zero i))) (.inr rfl) rfl ?_; refine a7 ?_; refine sx7 ?_; (iterate 3 refine qy ?_)
   refine a6 ?_; refine ae ?_
   refine ak (ι := Nat) ⟨[(5, some _), (6, some _), (33, some _), (34, some _)], []⟩ ⟨⟨c9, c9, c9, c9, trivial⟩, trivial⟩ (fun i => ⟨[(8, some (.v (.one (.ref 900 ((qs.take i).map u8A).length)))), (35, some (vI i))], [(900, some (.arr true 1 38 ((qs.take i).map u8A).length (lf sC ((qs.take i).map u8A))))]⟩) (fun i => i ≤ qs.length) (fun i => qs.length - i) (0) (Nat.zero_le _) ⟨⟨zy, zy, trivial⟩, ⟨u9, trivial⟩⟩ ?_
   rintro i hi
   have hlen : ((qs.take i).map u8A).length ≤ i := by rw [List.length_map, List.length_take]; omega
   refine sx7 ?_; refine qy ?_; refine a6 ?_; refine a7 ?_; refine a8 _ rfl (fun r2 => ?_) (fun r2 => ?_)
   ·
    have h2 := of_decide_eq_true r2
    try simp only [ty] at h2
    refine aa ?_; refine a7 ?_; refine ae ?_; refine sx7 ?_; (iterate 3 refine qy ?_); refine a6 ?_; refine gy ?_; (iterate 3 refine qy ?_); refine m9 1 ?_; refine ra 2 true rfl rfl rfl rfl rfl rfl ?_
    refine qy ?_; refine a6 ?_; refine gy ?_; (iterate 2 refine qy ?_); refine a6 ?_; refine ⟨i + 1, ?_, ?_, ?_⟩
    · show i + 1 ≤ _; omega
    · first | omega | (dsimp only; omega)
    · exact ⟨⟨⟨_, rfl, (ee (adz (by omega)))⟩, zy, c9, c9, c9, c9, trivial⟩, ⟨⟨_, rfl, (ey (adz (by omega)) b02)⟩, trivial⟩⟩
   ·
    have h2 := of_decide_eq_false r2
    try simp only [ty] at h2
    obtain rfl : i = qs.length := by omega
    refine am ?_; refine a7 ?_; refine bu 8 rfl rfl rfl ?_; refine gy ?_; (iterate 3 refine qy ?_)
    refine rc rfl rfl rfl rfl rfl rfl ax3 (b1j d.num d.fds ((qs.take qs.length).map u8A)) (CoL.refl _) rfl rfl ?_; (iterate 5 refine qy ?_); refine a6 ?_; refine sx7 ?_; (iterate 3 refine qy ?_)
    refine rc rfl rfl rfl rfl rfl rfl awu (b0u d.num d.fds ((qs.take qs.length).map u8A)) (CoL.refl _) rfl rfl ?_; (iterate 5 refine qy ?_); refine a6 ?_; refine sx7 ?_; (iterate 4 refine qy ?_)
    refine bh rfl rfl (fun r3 => ?_) (fun r3 => ?_)
    ·
     have h3 := r3
     (iterate 3 refine qy ?_ (hg := (gtt r3))); (iterate 2 refine qy ?_); refine a6 ?_
     exact hx8 rfl rfl rfl (⟨ccb (by simp_all), trivial⟩)
    ·
     have h3 := r3
     (iterate 3 refine k9 (gft r3) ?_); refine rq rfl rfl rfl rfl rfl ?_ (hp := r3); refine qy ?_; refine a6 ?_
     exact hx8 rfl rfl rfl (⟨ccb (by simp_all), trivial⟩)
end Go.Hx
end
