/- A part of the proof: W2a Rbm W3. -/
import Derived.Test.YtidophngianjiaaGreatDoor6x24
import Derived.Test.YtidophngianjiaaGreatDoor6x26
import Derived.Test.YtidophngianjiaaGreatDoor6x27
import Derived.Test.YtidophngianjiaaGreatDoor6x36
import Derived.Test.YtidophngianjiaaGreatDoor6x38
set_option linter.all false
section
namespace Go.Hx
open Go.Proofs
theorem au3 (d : Dps) : 0 ≤ d.num ∧ d.num ≤ 6 := by
 have := Nat.mod_lt d.n.toNat (show 0 < 7 by decide)
 unfold Dps.num
 omega
theorem a3b {d : Dps} (h : d.l.length ≤ 6) : d7 d.num d.fds 8 = 0 := ash h
theorem ayp {d : Dps} (h : d.l.length ≤ 6) : ah Tryz.prog 30 [pI d.num, pP (fdl d.fds)] (ap [pP (asl (jx d.num d.fds)), pI 0]) := by
 have := an9 d.num d.fds
 rw [a3b h] at this
 exact this
theorem axe {d : Dps} (h : d.l.length ≤ 6) : ah Tryz.prog 31 [pI d.num, pP (fdl d.fds)] (ap [pP (asl (jx d.num d.fds)), pI 0]) := by
 have := ayd d.num d.fds
 rw [a3b h] at this
 exact this
theorem al9 (l : List AS) : ah Tryz.prog 32 [pP (asl l), pP (asl l)] (ap [pB true]) := by
 have := ac5 l l
 rw [decide_eq_true rfl] at this
 exact this
theorem axn {n : Int} {l : List Fd} {ps : List AS} (h : lsC n ps l [] = 0) (h2 : pb n l ps = true) : ah Tryz.prog 33 [pI n, pP (fdl l), pP (asl ps)] (ap [pB true, pI 0]) := by
 have := azh n l ps
 rw [h, h2] at this
 exact this
theorem awp {n : Int} {l : List Fd} {ps : List AS} (h : lsC n ps l [] = 0) (h2 : pb n l ps = true) : ah Tryz.prog 34 [pI n, pP (fdl l), pP (asl ps)] (ap [pB true, pI 0]) := by
 have := aye n l ps
 rw [h, h2] at this
 exact this
theorem awd {d : Dps} (h : d.l.length ≤ 6) : lsC d.num (jx d.num d.fds) d.fds [] = 0 ∧ pb d.num d.fds (jx d.num d.fds) = true := arl (a3b h) (au3 d).2
def u8A (b : BitVec 8) : AS := b.setWidth 32
abbrev u8C : BitVec 8 → Nat → PV := fun b _ => .raw (.int .u8 (b.toNat : Int))
end Go.Hx
end
section
namespace Go.Hx
open Go.Proofs Go.Proofs.YtidophngianjiaaGreatDoor
open Go.RowKit Go.ChangeShapes Go.WideShapes Go.ChangeAt
theorem rd5 : Rd Tryz.prog 5 1 u8C := (az8 Tryz.underlying5).co (fun u => u.toBitVec) fun a j hj => CoP.refl _
theorem ay5 : Rd Tryz.prog 136 2 Dp.c := by
 intro H enc w sp held fuel cs x h
 obtain ⟨hl, n, hf⟩ := ajk Tryz.underlying136 h
 obtain ⟨y0, e0⟩ := hf 0 _ rfl
 obtain ⟨y1, e1⟩ := hf 1 _ rfl
 obtain ⟨a0, h0⟩ := aa8 rd5 e0
 obtain ⟨a1, h1⟩ := aa8 rd5 e1
 refine ⟨hl.trans (by kernel_rfl), (⟨a0, a1⟩ : Dp), fun j hj => ?_⟩
 match j, hj with
 | 0, _ => exact h0 0 (by omega)
 | 1, _ => exact h1 0 (by omega)
theorem ayo : RdB Tryz.prog 22 1 (aw9 2 Dp.c) fun b l => l.length ≤ b :=
 (ak6 (B := fun _ _ => True) (fun _ _ _ _ _ => trivial) Tryz.underlying22 (by kernel_rfl) (by omega) ay5.toB).co id (fun b a h => h.1) fun a j hj => CoP.refl _
theorem azk : RdB Tryz.prog 24 2 Dps.c fun b d => d.l.length ≤ b := by
 intro H enc w sp held fuel cs x h
 obtain ⟨hl, n, hf⟩ := afb Tryz.underlying24 h
 obtain ⟨y0, e0⟩ := hf 0 _ rfl
 obtain ⟨y1, e1⟩ := hf 1 _ rfl
 obtain ⟨a0, _, h0⟩ := a7u (fun _ _ _ _ _ => trivial) rd5.toB e0
 obtain ⟨a1, hb, h1⟩ := a7u (B := fun b (l : List Dp) => l.length ≤ b) (fun _ _ _ h k => Nat.le_trans k h) ayo e1
 refine ⟨hl.trans (by kernel_rfl), (⟨a0, a1⟩ : Dps), hb, fun j hj => ?_⟩
 match j, hj with
 | 0, _ => exact h0 0 (by omega)
 | 1, _ => exact h1 0 (by omega)
theorem ayi : Tryz.prog.readableRec 24 = true ∧ 24 < Tryz.prog.types.size := ⟨by kernel_rfl, of_decide_eq_true (by kernel_rfl)⟩
end Go.Hx
end
section
namespace Go.Hx
open Go.Proofs
set_option maxRecDepth 100000
set_option maxHeartbeats 1000000
theorem aw5 (d : Dps) (hl : d.l.length ≤ 16777216) : ah Tryz.prog 6 [d.pc] (ap [pB true]) := by
 refine ag (nt := 74) af Tryz.func6 rfl rfl l9 ?_; refine sx7 ?_; refine m9 0 ?_; refine qy ?_; refine a6 ?_; refine sx7 ?_; refine qy ?_; refine rc rfl rfl rfl rfl rfl rfl avo (cOf d hl) (CoL.refl _) rfl rfl ?_
 (iterate 7 refine qy ?_); refine a6 ?_; refine a7 ?_; refine sx7 ?_; refine rc rfl rfl rfl rfl rfl rfl ai0 (aij) (CoL.refl _) rfl rfl ?_; (iterate 5 refine qy ?_); refine a6 ?_
 refine a8 _ rfl (fun r0 => ?_) (fun r0 => ?_)
 ·
  have h0 := r0
  have h0 := ay h0
  refine sx7 ?_; refine rc rfl rfl rfl rfl rfl rfl ai0 (aij) (CoL.refl _) rfl rfl ?_; refine qy ?_; refine a6 ?_
  exact hx8 rfl rfl rfl (CoL.refl _)
 ·
  have h0 := r0
  have h0 := ax h0
  have h6 : d.l.length ≤ 6 := of_decide_eq_true (by simp_all)
  have hok := awd h6
  refine aa ?_; refine sx7 ?_; (iterate 2 refine qy ?_); refine rc rfl rfl rfl rfl rfl rfl a9i (ayp h6) (CoL.refl _) rfl rfl ?_; (iterate 5 refine qy ?_); refine a6 ?_; refine sx7 ?_; (iterate 2 refine qy ?_)
  refine rc rfl rfl rfl rfl rfl rfl avm (axe h6) (CoL.refl _) rfl rfl ?_; (iterate 5 refine qy ?_); refine a6 ?_; refine a7 ?_; refine sx7 ?_; (iterate 6 refine qy ?_)
  refine rc rfl rfl rfl rfl rfl rfl ac8 (al9 (jx d.num d.fds)) (CoL.refl _) rfl rfl ?_; (iterate 2 refine qy ?_); refine a6 ?_
  refine a8 _ rfl (fun e => Bool.noConfusion ((so rfl rfl).symm.trans e)) (fun _ => ?_); refine aa ?_; refine sx7 ?_; (iterate 3 refine qy ?_)
  refine rc rfl rfl rfl rfl rfl rfl aua (axn hok.1 hok.2) (CoL.refl _) rfl rfl ?_; (iterate 5 refine qy ?_); refine a6 ?_; refine sx7 ?_; (iterate 3 refine qy ?_)
  refine rc rfl rfl rfl rfl rfl rfl aww (awp hok.1 hok.2) (CoL.refl _) rfl rfl ?_; (iterate 5 refine qy ?_); refine a6 ?_; refine sx7 ?_; (iterate 7 refine qy ?_); refine rq rfl rfl rfl rfl (gtt (b5 rfl rfl)) ?_
  (iterate 2 refine qy ?_); refine bg rfl rfl (fun r1 => ?_) (fun r1 => ?_)
  ·
   have h1 := r1
   have h1 := d9 (b5 rfl rfl) h1
   refine qy ?_ (hg := (gtt r1)); (iterate 2 refine qy ?_); refine a6 ?_
   exact hx8 rfl rfl rfl (⟨ccb (by simp_all), trivial⟩)
  ·
   have h1 := r1
   have h1 := d9 (b5 rfl rfl) h1
   refine k9 (gft r1) ?_; refine rq rfl rfl rfl rfl rfl ?_ (hp := r1); refine qy ?_; refine a6 ?_
   exact hx8 rfl rfl rfl (⟨ccb (by simp_all), trivial⟩)
end Go.Hx
end
