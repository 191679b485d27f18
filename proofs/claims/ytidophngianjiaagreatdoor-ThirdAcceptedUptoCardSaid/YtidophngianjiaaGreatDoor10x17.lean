/- A part of the proof: V4 Cs5 V5 Cs2 Cs6. -/
import Derived.Lib.TrailingZeros
import Derived.Test.YtidophngianjiaaGreatDoor10x15
import Derived.Test.YtidophngianjiaaGreatDoor10x16
set_option linter.all false
section
namespace Go.Hx
open Go.Proofs
set_option maxRecDepth 100000
set_option maxHeartbeats 1000000
theorem alw : goodFn Tryz.prog 22 := ⟨Tryz.f22, Tryz.func22, by kernel_rfl, by kernel_rfl⟩
theorem afm (n : Nat) (c : Bool) (f : Nat → Nat → PV) (hn : n ≤ 35184372088832) :
 ee Tryz.prog 22 [.one (.p (.sl n 1 c f))] [] (.v (.one (.ref 0 n))) [(0, .arr true 1 38 n f)] [] := by
 refine gl (nt := 8) af Tryz.func22 rfl rfl l9 rfl ?_; refine sx7 ?_; refine eu true rfl rfl rfl rfl rfl trivial ?_; refine a6 ?_
 refine a6h (ι := Bool) (fun c => ⟨[(0, some (c5 (.sl n 1 c f)))], []⟩) (fun _ => True) ?_ fun c _ => ?_
 · rcases Nat.eq_zero_or_pos n with hz | h0
   · subst hz
     refine hw_exact' 0 rfl fun ad cap hcap => ?_
     refine sx7 ?_; (iterate 2 refine eu true rfl rfl rfl rfl rfl trivial ?_); refine a6 ?_; refine a8 ad.isNone rfl (fun hc => ?_) (fun hc => ?_)
     · refine sx7 ?_
       refine eu true rfl rfl rfl rfl rfl trivial ?_; refine a6 ?_; refine dp 2 0 true 1 38 f (by decide) rfl (CoP.sl rfl (.inr rfl) (fun h => h) fun i j hi _ => absurd hi (Nat.not_lt_zero i)) (.inr rfl) rfl ?_
       refine am ?_; refine ⟨.inr rfl, ?_⟩
       exact ⟨_, _, rfl, trivial, CoR.refl _, ⟨u9, trivial⟩⟩
     · refine aa ?_
       exact ⟨false, trivial, ⟨⟨_, rfl, CoP.raw_sl hcap⟩, trivial⟩, trivial⟩
   · refine sx7 ?_
     refine eu true rfl rfl rfl rfl rfl trivial ?_; refine eu true rfl rfl rfl rfl rfl h0 ?_; refine a6 ?_; refine a8 false rfl (fun hc => by cases hc) (fun hc => ?_); refine aa ?_
     exact ⟨c, trivial, ⟨c9, trivial⟩, trivial⟩
 · refine sx7 ?_
   refine a1t 0 rfl rfl rfl rfl rfl rfl trivial ?_; refine eu true rfl rfl rfl rfl rfl trivial ?_
   refine acq 0 true rfl rfl rfl rfl rfl rfl ⟨trivial, rfl, rfl, rfl, .inl rfl, by show 0 + n ≤ 9223372036854775807; omega, by show (0 + n) * 4 ≤ 140737488355328; omega, fun _ => .inl rfl⟩ ?_
   refine eu true rfl rfl rfl rfl rfl trivial ?_; refine a6 ?_; refine am ?_; refine ⟨.inr rfl, ?_⟩
   refine ⟨_, _, rfl, trivial, CoR.of_eq (by show HR.v (.one (.ref 0 (0 + n))) = _; rw [Nat.zero_add]), ⟨⟨_, rfl, ?_⟩, trivial⟩⟩
   exact ⟨fun h => h, rfl, rfl, (Nat.zero_add n).symm, fun i j _ _ => CoP.of_eq (by simp [fw])⟩
theorem a6y : goodFn Tryz.prog 121 := ⟨Tryz.f121, Tryz.func121, by kernel_rfl, by kernel_rfl⟩
theorem arv (l : List AS) (g k : Nat) (caps : Nat → PV) (V : AS → Bool) (hg : goodFn Tryz.prog g) (hV : ∀ x, ah Tryz.prog g (pA x :: iw caps k 0) (ap [pB (V x)])) : ah Tryz.prog 121 [pP (asl l), pP (.fn g k caps)] (ap [pI (idx V l)]) := by
 refine ag (nt := 19) af Tryz.func121 rfl rfl l9 ?_; refine a7 ?_
 refine d1 0 rfl fun hn => ?_
 refine gy ?_; refine qy ?_; refine a6 ?_; refine dg (ι := Unit) ⟨[], []⟩ ⟨trivial, trivial⟩ (fun _i => ⟨[], []⟩) (fun _i => idx V l = -1) ?_ ?_
 ·
  refine sx7 ?_; (iterate 3 refine qy ?_); refine a6 ?_; refine ae ?_
  refine ai (ι := Nat) ⟨[(0, some _), (1, some _), (7, some _)], []⟩ ⟨⟨c9, c9, c9, trivial⟩, trivial⟩ (fun i => ⟨[(8, some (vI i))], []⟩) (fun i => i ≤ l.length ∧ (∀ j, j < i → V (l.getD j default) = false)) (fun i => l.length - i) (0) (⟨Nat.zero_le _, bu⟩) ⟨⟨zy, trivial⟩, trivial⟩ ?_
  rintro i ⟨hi, hI⟩
  refine sx7 ?_; refine qy ?_; refine a6 ?_; refine a7 ?_; refine a8 _ rfl (fun r0 => ?_) (fun r0 => ?_)
  ·
   have h0 := of_decide_eq_true r0
   try simp only [ty] at h0
   refine aa ?_; refine a7 ?_; refine ae ?_; refine sx7 ?_; (iterate 2 refine qy ?_); refine a6 ?_; refine sx7 ?_; (iterate 5 refine qy ?_)
   refine rc rfl rfl rfl rfl rfl rfl hg (hV (l.getD i default)) (CoL.refl _) rfl rfl ?_; refine a6 ?_; refine a8 _ rfl (fun r1 => ?_) (fun r1 => ?_)
   ·
    have h1 := r1
    refine sx7 ?_; (iterate 2 refine qy ?_); refine a6 ?_
    exact hx8 rfl rfl rfl (⟨cci (xh (i := i) (by omega) hI h1).symm, trivial⟩)
   ·
    have h1 := r1
    refine aa ?_; refine gy ?_; (iterate 2 refine qy ?_); refine a6 ?_; refine ⟨i + 1, ?_, ?_, ?_⟩
    · exact ⟨by show i + 1 ≤ _; omega, bf hI (h1)⟩
    · first | omega | (dsimp only; omega)
    · exact ⟨⟨zy, c9, c9, c9, trivial⟩, trivial⟩
  ·
   have h0 := of_decide_eq_false r0
   try simp only [ty] at h0
   refine ak ?_; refine ⟨(), ?_, ?_⟩
   · exact xx fun j hj => hI j (by omega)
   · exact ⟨trivial, trivial⟩
 · rintro _ hj
   refine sx7 ?_; refine qy ?_; refine a6 ?_
   exact hx8 rfl rfl rfl (⟨cci hj.symm, trivial⟩)
theorem ayp : goodFn Tryz.prog 65 := ⟨Tryz.f65, Tryz.func65, by kernel_rfl, by kernel_rfl⟩
theorem b15 (l : List AS) (g k : Nat) (caps : Nat → PV) (V : AS → Bool) (hg : goodFn Tryz.prog g) (hV : ∀ x, ah Tryz.prog g (pA x :: iw caps k 0) (ap [pB (V x)])) : ah Tryz.prog 65 [pP (asl l), pP (.fn g k caps)] (ap [pB (l.any V)]) := by
 refine ag (nt := 9) af Tryz.func65 rfl rfl l9 ?_; refine sx7 ?_; refine qy ?_; refine a6 ?_; refine sx7 ?_; (iterate 2 refine qy ?_)
 refine rc rfl rfl rfl rfl rfl rfl a6y (arv l g k caps V hg hV) (CoL.refl _) rfl rfl ?_; (iterate 2 refine qy ?_); refine a6 ?_
 exact hx8 rfl rfl rfl (⟨ccb zj, trivial⟩)
theorem avc : goodFn Tryz.prog 235 := ⟨Tryz.f235, Tryz.func235, by kernel_rfl, by kernel_rfl⟩
theorem b2d (l : List Fd) (s : Fd) : ah Tryz.prog 235 [pP (fdl l), s.pc] (ap [pI (idx (fun x => decide (x = s)) l)]) := by
 refine ag (nt := 19) af Tryz.func235 rfl rfl l9 ?_; refine a7 ?_
 refine d1 0 rfl fun hn => ?_
 refine gy ?_; refine m9 0 ?_; refine qy ?_; refine a6 ?_; refine dg (ι := Unit) ⟨[], []⟩ ⟨trivial, trivial⟩ (fun _i => ⟨[], []⟩) (fun _i => idx (fun x => decide (x = s)) l = -1) ?_ ?_
 ·
  refine sx7 ?_; (iterate 3 refine qy ?_); refine a6 ?_; refine ae ?_
  refine ai (ι := Nat) ⟨[(0, some _), (3, some _), (7, some _)], [(0, some _)]⟩ ⟨⟨c9, c9, c9, trivial⟩, ⟨u9, trivial⟩⟩ (fun i => ⟨[(8, some (vI i))], []⟩) (fun i => i ≤ l.length ∧ (∀ j, j < i → decide (l.getD j default = s) = false)) (fun i => l.length - i) (0) (⟨Nat.zero_le _, bu⟩) ⟨⟨zy, trivial⟩, trivial⟩ ?_
  rintro i ⟨hi, hI⟩
  refine sx7 ?_; refine qy ?_; refine a6 ?_; refine a7 ?_; refine a8 _ rfl (fun r0 => ?_) (fun r0 => ?_)
  ·
   have h0 := of_decide_eq_true r0
   try simp only [ty] at h0
   refine aa ?_; refine a7 ?_; refine ae ?_; refine sx7 ?_; (iterate 2 refine qy ?_); refine a6 ?_; refine a7 ?_; refine b7 (E := bm) af ar [0, 1, 2, 3, 4, 5] ?_; (iterate 6 refine qy ?_)
   refine a6 ?_; refine ⟨by kernel_rfl, ?_⟩; refine a8 _ rfl (fun r1 => ?_) (fun r1 => ?_)
   ·
    have h1 := r1
    refine sx7 ?_; (iterate 2 refine qy ?_); refine a6 ?_
    exact hx8 rfl rfl rfl (⟨cci (xh (p := fun x => decide (x = s)) (i := i) (by omega) hI (decide_eq_true (by simp_all [Fd.eq_iff, db]))).symm, trivial⟩)
   ·
    have h1 := r1
    refine aa ?_; refine gy ?_; (iterate 2 refine qy ?_); refine a6 ?_; refine ⟨i + 1, ?_, ?_, ?_⟩
    · exact ⟨by show i + 1 ≤ _; omega, bf hI (decide_eq_false fun e => by subst e; simp_all)⟩
    · first | omega | (dsimp only; omega)
    · exact ⟨⟨zy, c9, c9, c9, trivial⟩, ⟨u9, trivial⟩⟩
  ·
   have h0 := of_decide_eq_false r0
   try simp only [ty] at h0
   refine ak ?_; refine ⟨(), ?_, ?_⟩
   · exact xx (p := fun x => decide (x = s)) fun j hj => hI j (by omega)
   · exact ⟨trivial, trivial⟩
 · rintro _ hj
   refine sx7 ?_; refine qy ?_; refine a6 ?_
   exact hx8 rfl rfl rfl (⟨cci hj.symm, trivial⟩)
theorem att : goodFn Tryz.prog 227 := ⟨Tryz.f227, Tryz.func227, by kernel_rfl, by kernel_rfl⟩
theorem b2j (l : List Fd) (s : Fd) : ah Tryz.prog 227 [pP (fdl l), s.pc] (ap [pB (l.any fun x => decide (x = s))]) := by
 refine ag (nt := 9) af Tryz.func227 rfl rfl l9 ?_; refine sx7 ?_; refine m9 0 ?_; refine qy ?_; refine a6 ?_; refine sx7 ?_; (iterate 2 refine qy ?_)
 refine rc rfl rfl rfl rfl rfl rfl avc (b2d _ _) (CoL.refl _) rfl rfl ?_; (iterate 2 refine qy ?_); refine a6 ?_
 exact hx8 rfl rfl rfl (⟨ccb zj, trivial⟩)
theorem auz : goodFn Tryz.prog 122 := ⟨Tryz.f122, Tryz.func122, by kernel_rfl, by kernel_rfl⟩
theorem b0m (l : List AS) (g k : Nat) (caps : Nat → PV) (V : AS → Bool) (hg : goodFn Tryz.prog g) (hV : ∀ x, ah Tryz.prog g (pA x :: iw caps k 0) (ap [pB (V x)])) : ee Tryz.prog 122 [.one (.ref 900 l.length), .one (.p (.fn g k caps))] [(900, .arr true 1 38 l.length (lf sC l))] (.v (.one (.p (asl (l.filter fun x => !V x))))) [] [] := by
 refine gl (nt := 42) af Tryz.func122 rfl rfl l9 rfl ?_; refine a7 ?_
 refine ahj 900 rfl fun hlen => ?_
 refine gy ?_; refine qy ?_; refine a6 ?_; refine sx7 ?_; (iterate 2 refine qy ?_); refine rc rfl rfl rfl rfl rfl rfl a6y (arv l g k caps V hg hV) (CoL.refl _) rfl rfl ?_; refine qy ?_; refine a6 ?_; refine a7 ?_
 refine sx7 ?_; (iterate 2 refine qy ?_); refine a6 ?_; refine a8 _ rfl (fun r0 => ?_) (fun r0 => ?_)
 ·
  have h0 := of_decide_eq_true r0
  try simp only [ty] at h0
  refine sx7 ?_; (iterate 2 refine qy ?_); refine a6 ?_; refine br 4 rfl rfl rfl ?_; refine am ?_; refine ⟨.inr rfl, ?_⟩
  exact ⟨_, _, rfl, (by (repeat' apply And.intro) <;> first | trivial | exact Nat.le_of_ble_eq_true rfl), ax5 (ad7 (by assumption)), trivial⟩
 ·
  have h0 := of_decide_eq_false r0
  try simp only [ty] at h0
  obtain ⟨i0, hi0, hi1, hi2, hi3⟩ := a2w h0
  refine aa ?_; refine a7 ?_; refine sx7 ?_; (iterate 3 refine qy ?_); refine a6 ?_; refine ae ?_
  refine ai (ι := Nat × Nat × List AS) ⟨[(0, some _), (1, some _)], []⟩ ⟨⟨c9, c9, trivial⟩, trivial⟩ (fun x => ⟨[(5, some (vI x.1)), (6, some (vI x.2.1))], [(900, some (.arr true 1 38 l.length (lf sC x.2.2)))]⟩) (fun x => DfI V l x.1 x.2.1 x.2.2) (fun x => l.length - x.2.1) ((i0, i0 + 1, l)) (DfI.start hi1 hi2 hi3) ⟨⟨⟨_, rfl, (coi hi0)⟩, ⟨_, rfl, (coi (by dsimp only; omega))⟩, trivial⟩, ⟨u9, trivial⟩⟩ ?_
  rintro x hC
  have hC0 := hC
  obtain ⟨hml, hkq, hql, _, _⟩ := hC0
  refine a7 ?_; refine sx7 ?_; (iterate 4 refine qy ?_); refine a6 ?_; refine a8 _ rfl (fun r1 => ?_) (fun r1 => ?_)
  ·
   have h1 := of_decide_eq_true r1
   try simp only [ty] at h1
   refine aa ?_; refine a7 ?_; refine ae ?_; refine sx7 ?_; (iterate 5 refine qy ?_); refine a6 ?_; refine sx7 ?_; (iterate 2 refine qy ?_)
   refine rc rfl rfl rfl rfl rfl rfl hg (hV (x.2.2.getD (x.2.1 : Int).toNat default)) (CoL.refl _) rfl rfl ?_; refine qy ?_; refine a6 ?_; refine a8 _ rfl (fun r2 => ?_) (fun r2 => ?_)
   ·
    have h2 := r2
    have h2 := ax h2
    have hv := h2
    refine sx7 ?_; (iterate 4 refine qy ?_); refine s9 ?_; refine a6 ?_; refine gy ?_; (iterate 3 refine qy ?_); refine a6 ?_; refine gy ?_; (iterate 3 refine qy ?_); refine a6 ?_
    first | (refine ⟨(x.1 + 1, x.2.1 + 1, x.2.2.set x.1 (x.2.2.getD x.2.1 default)), ?_, ?_, ?_⟩
             · exact hC.keep (by omega) (by simpa using hv)
             · first | omega | (dsimp only; omega)
             · exact ⟨⟨⟨_, rfl, (coi (by first | rfl | (dsimp only; omega)))⟩, ⟨_, rfl, (coi (by first | rfl | (dsimp only; omega)))⟩, c9, c9, trivial⟩, ⟨⟨_, rfl, (sa id hml.symm (by omega) (by omega) (by omega))⟩, trivial⟩⟩)
          | (refine ⟨(x.1, x.2.1 + 1, x.2.2), ?_, ?_, ?_⟩
             · exact hC.skip (by omega) (by simpa using hv)
             · first | omega | (dsimp only; omega)
             · exact ⟨⟨⟨_, rfl, (coi (by first | rfl | (dsimp only; omega)))⟩, ⟨_, rfl, (coi (by first | rfl | (dsimp only; omega)))⟩, c9, c9, trivial⟩, ⟨u9, trivial⟩⟩)
   ·
    have h2 := r2
    have h2 := aw h2
    have hv := h2
    refine aa ?_; refine gy ?_; (iterate 3 refine qy ?_); refine a6 ?_
    first | (refine ⟨(x.1 + 1, x.2.1 + 1, x.2.2.set x.1 (x.2.2.getD x.2.1 default)), ?_, ?_, ?_⟩
             · exact hC.keep (by omega) (by simpa using hv)
             · first | omega | (dsimp only; omega)
             · exact ⟨⟨⟨_, rfl, (coi (by first | rfl | (dsimp only; omega)))⟩, ⟨_, rfl, (coi (by first | rfl | (dsimp only; omega)))⟩, c9, c9, trivial⟩, ⟨⟨_, rfl, (sa id hml.symm (by omega) (by omega) (by omega))⟩, trivial⟩⟩)
          | (refine ⟨(x.1, x.2.1 + 1, x.2.2), ?_, ?_, ?_⟩
             · exact hC.skip (by omega) (by simpa using hv)
             · first | omega | (dsimp only; omega)
             · exact ⟨⟨⟨_, rfl, (coi (by first | rfl | (dsimp only; omega)))⟩, ⟨_, rfl, (coi (by first | rfl | (dsimp only; omega)))⟩, c9, c9, trivial⟩, ⟨u9, trivial⟩⟩)
  ·
   have h1 := of_decide_eq_false r1
   try simp only [ty] at h1
   have hq := h1
   refine ak ?_; refine sx7 ?_; (iterate 3 refine qy ?_); refine ra 0 true rfl rfl rfl rfl rfl rfl ?_; refine a6 ?_; refine sx7 ?_; (iterate 2 refine qy ?_); refine apm rfl rfl rfl rfl rfl ?_; refine qy ?_
   refine a6 ?_; refine am ?_; refine ⟨.inr rfl, ?_⟩
   exact ⟨_, _, rfl, (by (repeat' apply And.intro) <;> first | trivial | exact Nat.le_of_ble_eq_true rfl), awh hC (by omega) (by simp [c4]), trivial⟩
end Go.Hx
end
section
namespace Go.Hx
def cn (s : AS) (i : Int) : Bool := decide (0 ≤ i ∧ i < 32) && s.getLsbD i.toNat
theorem ff {s : AS} {i : Nat} (h : i < 32) : cn s i = s.getLsbD i := by
 unfold cn
 rw [decide_eq_true (by omega)]
 simp
theorem a9y {s : AS} {i : Int} (h0 : 0 ≤ i) (h1 : i < 32) : decide (ca .and .u32 ((asI s).fdiv (2 ^ (min i.toNat 32))) 1 = 1) = cn s i := by
 unfold cn
 rw [a3c, show (1 : Int) = asI 1 from rfl, o8, decide_eq_true (show 0 ≤ i ∧ i < 32 from ⟨h0, h1⟩), Bool.true_and]
 have e : asI (s >>> i.toNat &&& 1) = asI 1 ↔ s.getLsbD i.toNat = true := by
  rw [db]
  constructor
  · intro h
    have := congrArg (fun x : AS => x.getLsbD 0) h
    simpa using this
  · intro h
    apply BitVec.eq_of_getLsbD_eq
    intro k hk
    have h1 : (1 : AS).getLsbD k = decide (k = 0) := by have := eg 0 k hk; simpa using this
    rw [BitVec.getLsbD_and, BitVec.getLsbD_ushiftRight, h1]
    by_cases hk0 : k = 0
    · subst hk0; simp [h]
    · simp [hk0]
 cases hb : s.getLsbD i.toNat with
 | true => exact decide_eq_true (e.2 hb)
 | false => exact decide_eq_false fun h => by rw [e.1 h] at hb; cases hb
theorem tn {s : AS} {i : Int} (h : ¬ (0 ≤ i ∧ i < 32)) : cn s i = false := by
 unfold cn
 rw [decide_eq_false h]
 rfl
theorem aei {n : Nat} (h : n ≤ 32) : j7 n = BitVec.ofNat 32 (2 ^ n - 1) := by
 apply BitVec.eq_of_getLsbD_eq
 intro k hk
 rw [jj n k hk, BitVec.getLsbD_ofNat, Nat.testBit_two_pow_sub_one]
 simp [hk]
theorem a2q {n : Nat} (h : n ≤ 32) : (j7 n).toNat = 2 ^ n - 1 := by
 have h2 : 2 ^ n ≤ 2 ^ 32 := Nat.pow_le_pow_right (by omega) h
 have h3 : 0 < 2 ^ n := Nat.two_pow_pos n
 rw [aei h, BitVec.toNat_ofNat, Nat.mod_eq_of_lt (by omega)]
theorem cr {n : Int} {l : List Fd} (h : av n l = 0) : 0 ≤ n ∧ n ≤ 16 ∧ l.length ≤ 64 ∧ l.all (inU n) = true := by
 unfold av at h
 split at h
 · cases h
 · split at h
   · cases h
   · split at h
     · rename_i h1 h2 h3
       exact ⟨by omega, by omega, by omega, h3⟩
     · cases h
theorem tl {n : Int} (h0 : 0 ≤ n) (h1 : n ≤ 16) : IntKind.wrap .u32 (1 * 2 ^ (min n.toNat 32)) - 1 = asI (aq n) := by
 have h2 : 2 ^ n.toNat ≤ 2 ^ 16 := Nat.pow_le_pow_right (by omega) (by omega)
 have h3 : 0 < 2 ^ n.toNat := Nat.two_pow_pos _
 rw [show IntKind.wrap .u32 (1 * 2 ^ (min n.toNat 32)) = asI ((1 : AS) <<< n.toNat) from ahn 1 n.toNat]
 unfold aq asI
 rw [Nat.min_eq_left (by omega), a2q (by omega), BitVec.toNat_shiftLeft, Nat.shiftLeft_eq]
 rw [show (1 : AS).toNat = 1 from rfl, Nat.one_mul, Nat.mod_eq_of_lt (by omega)]
 omega
theorem air {s : AS} {n : Int} (h0 : 0 ≤ n) (h1 : n ≤ 16) : (asI s).fdiv (2 ^ (min n.toNat 32)) = 0 ↔ sub s (aq n) := by
 rw [a3c, show (0 : Int) = asI 0 from rfl, db]
 unfold aq
 rw [Nat.min_eq_left (by omega)]
 exact (rz (by omega)).symm
theorem a3o {n : Int} (h0 : 0 ≤ n) (h1 : n ≤ 16) : 0 ≤ IntKind.wrap .u32 (1 * 2 ^ (min n.toNat 32)) - 1 := by rw [tl h0 h1]; exact a0p _
theorem zo {n : Int} (h0 : 0 ≤ n) (h1 : n ≤ 16) : IntKind.wrap .u32 (1 * 2 ^ (min n.toNat 32)) - 1 ≤ 4294967295 := by rw [tl h0 h1]; have := a4h (aq n); omega
theorem ao7 {a b : List AS} (h : a.length = b.length) (hI : ∀ j, j < a.length → decide (a.getD j default = b.getD j default) = true) : a = b := kb h fun j hj => of_decide_eq_true (hI j hj)
theorem ani {a b : List Fd} (h : a.length = b.length) (hI : ∀ j, j < a.length → decide (a.getD j default = b.getD j default) = true) : a = b := kb h fun j hj => of_decide_eq_true (hI j hj)
def eo (n : Int) (l : List Fd) (s : AS) : Bool := decide (av n l = 0 ∧ sub s (aq n) ∧ clo l s = aq n)
section
variable {n : Int} {l : List Fd} {s : AS}
theorem ai0 (h : ¬ av n l = 0) : eo n l s = false := decide_eq_false fun e => h e.1
theorem apg (h : av n l = 0) (h2 : (asI s).fdiv (2 ^ (min n.toNat 32)) = 0) : decide (asI (clo l s) = asI (aq n)) = eo n l s := by
 have hv := cr h
 have h3 := (air hv.1 hv.2.1).1 h2
 exact decide_eq_decide.2 ⟨fun e => ⟨h, h3, db.1 e⟩, fun e => congrArg asI e.2.2⟩
theorem ai7 (h : av n l = 0) (h2 : ¬ (asI s).fdiv (2 ^ (min n.toNat 32)) = 0) : eo n l s = false := by
 have hv := cr h
 exact decide_eq_false fun e => h2 ((air hv.1 hv.2.1).2 e.2.1)
end
def a4a (n : Int) (l : List Fd) (m : Int) : Int := if av n l = 0 then (if m < n then 3 else 0) else av n l
structure Dp where
 l : BitVec 8
 r : BitVec 8
deriving Inhabited
def Dp.c (d : Dp) : Nat → PV
 | 0 => .raw (.int .u8 (d.l.toNat : Int))
 | 1 => .raw (.int .u8 (d.r.toNat : Int))
 | _ => .any
abbrev dpl (l : List Dp) : PV := psl 2 Dp.c l
def Dp.fd (n : Int) (d : Dp) : Fd := ⟨d.l.setWidth 32 &&& aq n, d.r.setWidth 32 &&& aq n⟩
theorem ami (b : BitVec 8) (t : AS) : ca .and .u32 (b.toNat : Int) (asI t) = asI (b.setWidth 32 &&& t) := by
 have h := b.isLt
 have e : asI (b.setWidth 32) = (b.toNat : Int) := by
  unfold asI
  rw [BitVec.toNat_setWidth, Nat.mod_eq_of_lt (by omega)]
 rw [← o8, e]
end Go.Hx
end
section
namespace Go.Hx
open Go.Proofs
set_option maxRecDepth 100000
set_option maxHeartbeats 1000000
theorem sb : goodFn Tryz.prog 171 := ⟨Tryz.f171, Tryz.func171, by kernel_rfl, by kernel_rfl⟩
theorem a6x (s : AS) (i : Int) : ah Tryz.prog 171 [pA s, pI i] (ap [pB (cn s i)]) := by
 refine ag (nt := 18) af Tryz.func171 rfl rfl l9 ?_; refine sx7 ?_; refine qy ?_; refine a6 ?_; refine sx7 ?_; (iterate 3 refine qy ?_); refine bc rfl rfl (fun r0 => ?_) (fun r0 => ?_)
 ·
  have h0 := of_decide_eq_true r0
  try simp only [ty] at h0
  (iterate 2 refine qy ?_ (hg := (gtt r0))); (iterate 2 refine qy ?_); refine bc rfl rfl (fun r1 => ?_) (fun r1 => ?_)
  ·
   have h1 := r1
   have h1 := cj r0 h1
   have h1 := of_decide_eq_true h1
   try simp only [ty] at h1
   (iterate 5 refine qy ?_ (hg := (gtt r1))); (iterate 2 refine qy ?_); refine a6 ?_
   exact hx8 rfl rfl rfl (⟨ccb (by first | exact bv (by assumption) (a9y (by omega) (by omega)) | exact (tn (by omega)).symm), trivial⟩)
  ·
   have h1 := r1
   have h1 := cj r0 h1
   have h1 := of_decide_eq_false h1
   try simp only [ty] at h1
   (iterate 5 refine k9 (gft r1) ?_); refine rq rfl rfl rfl rfl rfl ?_ (hp := r1); refine qy ?_; refine a6 ?_
   exact hx8 rfl rfl rfl (⟨ccb (by first | exact bv (by assumption) (a9y (by omega) (by omega)) | exact (tn (by omega)).symm), trivial⟩)
 ·
  have h0 := of_decide_eq_false r0
  try simp only [ty] at h0
  (iterate 2 refine k9 (gft r0) ?_); refine rq rfl rfl rfl rfl rfl ?_ (hp := r0); refine qy ?_; (iterate 5 refine k9 rfl ?_); (iterate 2 refine qy ?_); refine a6 ?_
  exact hx8 rfl rfl rfl (⟨ccb (by first | exact bv (by assumption) (a9y (by omega) (by omega)) | exact (tn (by omega)).symm), trivial⟩)
theorem aep : goodFn Tryz.prog 138 := ⟨Tryz.f138, Tryz.func138, by kernel_rfl, by kernel_rfl⟩
theorem an1 (n : Int) (h0 : 0 ≤ n) (h1 : n ≤ 16) : ah Tryz.prog 138 [pI n] (ap [pA (aq n)]) := by
 refine ag (nt := 6) af Tryz.func138 rfl rfl l9 ?_; refine sx7 ?_; refine qy ?_; refine a6 ?_; refine sx7 ?_; (iterate 2 refine qy ?_); refine rq rfl rfl rfl rfl rfl ?_ (hp := ⟨a3o h0 h1, zo h0 h1⟩)
 refine qy ?_; refine a6 ?_
 exact hx8 rfl rfl rfl (⟨cci (tl h0 h1), trivial⟩)
theorem amg : goodFn Tryz.prog 90 := ⟨Tryz.f90, Tryz.func90, by kernel_rfl, by kernel_rfl⟩
theorem aj8 (n : Int) (h0 : 0 ≤ n) (h1 : n ≤ 16) : ah Tryz.prog 90 [pI n] (ap [pA (aq n)]) := by
 refine ag (nt := 6) af Tryz.func90 rfl rfl l9 ?_; refine sx7 ?_; refine qy ?_; refine a6 ?_; refine sx7 ?_; (iterate 2 refine qy ?_); refine rq rfl rfl rfl rfl rfl ?_ (hp := ⟨a3o h0 h1, zo h0 h1⟩)
 refine qy ?_; refine a6 ?_
 exact hx8 rfl rfl rfl (⟨cci (tl h0 h1), trivial⟩)
theorem a6o : goodFn Tryz.prog 136 := ⟨Tryz.f136, Tryz.func136, by kernel_rfl, by kernel_rfl⟩
theorem ar2 (l : List Fd) (s p : AS) : ah Tryz.prog 136 [pP (fdl l), pA s, pA p] (ap [pB (decide (sub p (clo l s)))]) := by
 refine ag (nt := 12) af Tryz.func136 rfl rfl l9 ?_; refine sx7 ?_; refine qy ?_; refine a6 ?_; refine sx7 ?_; (iterate 3 refine qy ?_); refine rc rfl rfl rfl rfl rfl rfl a1e (a0v l s) (CoL.refl _) rfl rfl ?_
 refine rc rfl rfl rfl rfl rfl rfl u7 (y3 p (clo l s)) (CoL.refl _) rfl rfl ?_; refine qy ?_; refine a6 ?_
 exact hx8 rfl rfl rfl (CoL.refl _)
theorem aay : goodFn Tryz.prog 88 := ⟨Tryz.f88, Tryz.func88, by kernel_rfl, by kernel_rfl⟩
theorem aio (n : Int) (l : List Fd) (s : AS) : ah Tryz.prog 88 [pI n, pP (fdl l), pA s] (ap [pB (eo n l s)]) := by
 refine ag (nt := 25) af Tryz.func88 rfl rfl l9 ?_; refine sx7 ?_; refine qy ?_; refine a6 ?_; refine sx7 ?_; (iterate 2 refine qy ?_); refine rc rfl rfl rfl rfl rfl rfl tj (sx n l) (CoL.refl _) rfl rfl ?_
 (iterate 2 refine qy ?_); refine bc rfl rfl (fun r0 => ?_) (fun r0 => ?_)
 ·
  have h0 := of_decide_eq_true r0
  try simp only [ty] at h0
  obtain ⟨hv0, hv1, _, _⟩ := cr h0
  (iterate 4 refine qy ?_ (hg := (gtt r0))); (iterate 2 refine qy ?_); refine bc rfl rfl (fun r1 => ?_) (fun r1 => ?_)
  ·
   have h1 := r1
   have h1 := cj r0 h1
   have h1 := of_decide_eq_true h1
   try simp only [ty] at h1
   (iterate 2 refine qy ?_ (hg := (gtt r1))); refine rc rfl rfl rfl rfl rfl rfl mb (ot l s) (CoL.refl _) rfl (gtt r1) ?_; refine qy ?_ (hg := (gtt r1))
   refine rc rfl rfl rfl rfl rfl rfl aep (an1 n (cr (by assumption)).1 (cr (by assumption)).2.1) (CoL.refl _) rfl (gtt r1) ?_; refine qy ?_ (hg := (gtt r1)); (iterate 2 refine qy ?_); refine a6 ?_
   exact hx8 rfl rfl rfl (⟨ccb (by first | exact bv (by assumption) (apg (by assumption) (by assumption)) | exact (ai0 (by assumption)).symm | exact (ai7 (by assumption) (by assumption)).symm), trivial⟩)
  ·
   have h1 := r1
   have h1 := cj r0 h1
   have h1 := of_decide_eq_false h1
   try simp only [ty] at h1
   (iterate 6 refine k9 (gft r1) ?_); refine rq rfl rfl rfl rfl rfl ?_ (hp := r1); refine qy ?_; refine a6 ?_
   exact hx8 rfl rfl rfl (⟨ccb (by first | exact bv (by assumption) (apg (by assumption) (by assumption)) | exact (ai0 (by assumption)).symm | exact (ai7 (by assumption) (by assumption)).symm), trivial⟩)
 ·
  have h0 := of_decide_eq_false r0
  try simp only [ty] at h0
  (iterate 4 refine k9 (gft r0) ?_); refine rq rfl rfl rfl rfl rfl ?_ (hp := r0); refine qy ?_; (iterate 6 refine k9 rfl ?_); (iterate 2 refine qy ?_); refine a6 ?_
  exact hx8 rfl rfl rfl (⟨ccb (by first | exact bv (by assumption) (apg (by assumption) (by assumption)) | exact (ai0 (by assumption)).symm | exact (ai7 (by assumption) (by assumption)).symm), trivial⟩)
theorem ayk : goodFn Tryz.prog 32 := ⟨Tryz.f32, Tryz.func32, by kernel_rfl, by kernel_rfl⟩
theorem ay6 (a b : List AS) : ah Tryz.prog 32 [pP (asl a), pP (asl b)] (ap [pB (decide (a = b))]) := by
 refine ag (nt := 26) af Tryz.func32 rfl rfl l9 ?_; refine a7 ?_
 refine d1 0 rfl fun hn => ?_
 refine gy ?_; refine qy ?_; refine a6 ?_; refine a7 ?_; refine sx7 ?_; (iterate 5 refine qy ?_); refine a6 ?_; refine a8 _ rfl (fun r0 => ?_) (fun r0 => ?_)
 ·
  have h0 := r0
  have h0 := of_decide_eq_false (ax h0)
  try simp only [ty] at h0
  refine sx7 ?_; refine qy ?_; refine a6 ?_
  exact hx8 rfl rfl rfl (⟨ccb (decide_eq_false fun e => by subst e; omega).symm, trivial⟩)
 ·
  have h0 := r0
  have h0 := of_decide_eq_true (aw h0)
  try simp only [ty] at h0
  refine aa ?_; refine dg (ι := Unit) ⟨[], []⟩ ⟨trivial, trivial⟩ (fun _i => ⟨[], []⟩) (fun _i => a = b) ?_ ?_
  ·
   refine sx7 ?_; refine qy ?_; refine a6 ?_; refine ae ?_
   refine ai (ι := Nat) ⟨[(0, some _), (1, some _)], []⟩ ⟨⟨c9, c9, trivial⟩, trivial⟩ (fun i => ⟨[(5, some (vI i))], []⟩) (fun i => i ≤ a.length ∧ (∀ j, j < i → decide (a.getD j default = b.getD j default) = true)) (fun i => a.length - i) (0) (⟨Nat.zero_le _, bu⟩) ⟨⟨zy, trivial⟩, trivial⟩ ?_
   rintro i ⟨hi, hI⟩
   refine a7 ?_; refine sx7 ?_; (iterate 4 refine qy ?_); refine a6 ?_; refine a8 _ rfl (fun r1 => ?_) (fun r1 => ?_)
   ·
    have h1 := of_decide_eq_true r1
    try simp only [ty] at h1
    refine aa ?_; refine a7 ?_; refine ae ?_; refine a7 ?_; refine b7 (E := bm) af ar [0, 1, 2, 3, 4, 5, 6, 7, 8] ?_; (iterate 9 refine qy ?_); refine a6 ?_; refine ⟨by kernel_rfl, ?_⟩
    refine a8 _ rfl (fun r2 => ?_) (fun r2 => ?_)
    ·
     have h2 := r2
     have h2 := of_decide_eq_false (ax h2)
     try simp only [ty] at h2
     refine sx7 ?_; refine qy ?_; refine a6 ?_
     exact hx8 rfl rfl rfl (⟨ccb (decide_eq_false fun e => by subst e; simp_all).symm, trivial⟩)
    ·
     have h2 := r2
     have h2 := of_decide_eq_true (aw h2)
     try simp only [ty] at h2
     refine aa ?_; refine gy ?_; (iterate 3 refine qy ?_); refine a6 ?_; refine ⟨i + 1, ?_, ?_, ?_⟩
     · exact ⟨by show i + 1 ≤ _; omega, bf hI (decide_eq_true (db.1 h2))⟩
     · first | omega | (dsimp only; omega)
     · exact ⟨⟨zy, c9, c9, trivial⟩, trivial⟩
   ·
    have h1 := of_decide_eq_false r1
    try simp only [ty] at h1
    refine ak ?_; refine ⟨(), ?_, ?_⟩
    · exact ao7 (by omega) fun j hj => hI j (by omega)
    · exact ⟨trivial, trivial⟩
  · rintro _ hj
    refine sx7 ?_; refine qy ?_; refine a6 ?_
    exact hx8 rfl rfl rfl (⟨ccb (decide_eq_true hj).symm, trivial⟩)
theorem aze : goodFn Tryz.prog 80 := ⟨Tryz.f80, Tryz.func80, by kernel_rfl, by kernel_rfl⟩
theorem azw (a b : List Fd) : ah Tryz.prog 80 [pP (fdl a), pP (fdl b)] (ap [pB (decide (a = b))]) := by
 refine ag (nt := 26) af Tryz.func80 rfl rfl l9 ?_; refine a7 ?_
 refine d1 0 rfl fun hn => ?_
 refine gy ?_; refine qy ?_; refine a6 ?_; refine a7 ?_; refine sx7 ?_; (iterate 5 refine qy ?_); refine a6 ?_; refine a8 _ rfl (fun r0 => ?_) (fun r0 => ?_)
 ·
  have h0 := r0
  have h0 := of_decide_eq_false (ax h0)
  try simp only [ty] at h0
  refine sx7 ?_; refine qy ?_; refine a6 ?_
  exact hx8 rfl rfl rfl (⟨ccb (decide_eq_false fun e => by subst e; omega).symm, trivial⟩)
 ·
  have h0 := r0
  have h0 := of_decide_eq_true (aw h0)
  try simp only [ty] at h0
  refine aa ?_; refine dg (ι := Unit) ⟨[], []⟩ ⟨trivial, trivial⟩ (fun _i => ⟨[], []⟩) (fun _i => a = b) ?_ ?_
  ·
   refine sx7 ?_; refine qy ?_; refine a6 ?_; refine ae ?_
   refine ai (ι := Nat) ⟨[(0, some _), (1, some _)], []⟩ ⟨⟨c9, c9, trivial⟩, trivial⟩ (fun i => ⟨[(5, some (vI i))], []⟩) (fun i => i ≤ a.length ∧ (∀ j, j < i → decide (a.getD j default = b.getD j default) = true)) (fun i => a.length - i) (0) (⟨Nat.zero_le _, bu⟩) ⟨⟨zy, trivial⟩, trivial⟩ ?_
   rintro i ⟨hi, hI⟩
   refine a7 ?_; refine sx7 ?_; (iterate 4 refine qy ?_); refine a6 ?_; refine a8 _ rfl (fun r1 => ?_) (fun r1 => ?_)
   ·
    have h1 := of_decide_eq_true r1
    try simp only [ty] at h1
    refine aa ?_; refine a7 ?_; refine ae ?_; refine a7 ?_; refine b7 (E := bm) af ar [0, 1, 2, 3, 4, 5, 6, 7, 8] ?_; (iterate 9 refine qy ?_); refine a6 ?_; refine ⟨by kernel_rfl, ?_⟩
    refine a8 _ rfl (fun r2 => ?_) (fun r2 => ?_)
    ·
     have h2 := r2
     refine sx7 ?_; refine qy ?_; refine a6 ?_
     exact hx8 rfl rfl rfl (⟨ccb (decide_eq_false fun e => by subst e; simp_all).symm, trivial⟩)
    ·
     have h2 := r2
     refine aa ?_; refine gy ?_; (iterate 3 refine qy ?_); refine a6 ?_; refine ⟨i + 1, ?_, ?_, ?_⟩
     · exact ⟨by show i + 1 ≤ _; omega, bf hI (decide_eq_true (by simp_all [Fd.eq_iff, db]))⟩
     · first | omega | (dsimp only; omega)
     · exact ⟨⟨zy, c9, c9, trivial⟩, trivial⟩
   ·
    have h1 := of_decide_eq_false r1
    try simp only [ty] at h1
    refine ak ?_; refine ⟨(), ?_, ?_⟩
    · exact ani (by omega) fun j hj => hI j (by omega)
    · exact ⟨trivial, trivial⟩
  · rintro _ hj
    refine sx7 ?_; refine qy ?_; refine a6 ?_
    exact hx8 rfl rfl rfl (⟨ccb (decide_eq_true hj).symm, trivial⟩)
end Go.Hx
end
section
namespace Go.Hx
def bsz (s : AS) : Nat := (List.range 32).countP fun i => s.getLsbD i
def bef (a b : AS) : Bool := decide (bsz a < bsz b) || (decide (bsz a = bsz b) && decide (a.toNat < b.toNat))
theorem w3 (a : AS) : bef a a = false := by simp [bef]
theorem o6 {a b : AS} : bef a b = true ↔ bsz a < bsz b ∨ (bsz a = bsz b ∧ a.toNat < b.toNat) := by simp [bef]
theorem ux {a b c : AS} (h : bef a b = true) (k : bef b c = true) : bef a c = true := by
 rw [o6] at *
 omega
theorem a7p {a b : AS} (h : a ≠ b) : bef a b = true ∨ bef b a = true := by
 have hn : a.toNat ≠ b.toNat := fun e => h (BitVec.eq_of_toNat_eq e)
 rw [o6, o6]
 omega
theorem anp {a b : AS} (h : bef a b = true) : bef b a = false := by
 rw [Bool.eq_false_iff]
 intro k
 have := ux h k
 rw [w3] at this
 cases this
def t8 (l : List AS) : Prop := l.Pairwise fun a b => bef a b = true
theorem a2a : ∀ {l k : List AS}, t8 l → t8 k → (∀ x, x ∈ l ↔ x ∈ k) → l = k
 | [], [], _, _, _ => rfl
 | [], y :: k, _, _, h => absurd ((h y).2 (List.mem_cons_self ..)) (by simp)
 | x :: l, [], _, _, h => absurd ((h x).1 (List.mem_cons_self ..)) (by simp)
 | x :: l, y :: k, hl, hk, h => by
  obtain ⟨h1, h2⟩ := List.pairwise_cons.1 hl
  obtain ⟨k1, k2⟩ := List.pairwise_cons.1 hk
  have e : x = y := by
   rcases List.mem_cons.1 ((h x).1 (List.mem_cons_self ..)) with e | hx
   · exact e
   · rcases List.mem_cons.1 ((h y).2 (List.mem_cons_self ..)) with e | hy
     · exact e.symm
     · have := anp (k1 x hx)
       rw [h1 y hy] at this
       cases this
  subst e
  congr 1
  refine a2a h2 k2 fun z => ?_
  constructor
  · intro hz
    rcases List.mem_cons.1 ((h z).1 (List.mem_cons_of_mem _ hz)) with e | hz'
    · subst e
      have := h1 z hz
      rw [w3] at this
      cases this
    · exact hz'
  · intro hz
    rcases List.mem_cons.1 ((h z).2 (List.mem_cons_of_mem _ hz)) with e | hz'
    · subst e
      have := k1 z hz
      rw [w3] at this
      cases this
    · exact hz'
def lb (x : AS) : List AS → List AS
 | [] => [x]
 | y :: l => if x = y then y :: l else if bef x y = true then x :: y :: l else y :: lb x l
theorem a34 {x z : AS} : ∀ {l : List AS}, z ∈ lb x l ↔ z = x ∨ z ∈ l
 | [] => by simp [lb]
 | y :: l => by
  unfold lb
  split
  · rename_i e
    subst e
    simp
  · split
    · simp
    · rw [List.mem_cons, a34, List.mem_cons]
      constructor
      · rintro (h | h | h) <;> simp [h]
      · rintro (h | h | h) <;> simp [h]
theorem a90 {x : AS} : ∀ {l : List AS}, t8 l → t8 (lb x l)
 | [], _ => by simp [lb, t8]
 | y :: l, h => by
  obtain ⟨h1, h2⟩ := List.pairwise_cons.1 h
  unfold lb
  split
  · exact h
  · split
    · rename_i hxy
      refine List.pairwise_cons.2 ⟨fun z hz => ?_, h⟩
      rcases List.mem_cons.1 hz with rfl | hz
      · exact hxy
      · exact ux hxy (h1 z hz)
    · rename_i hne hxy
      refine List.pairwise_cons.2 ⟨fun z hz => ?_, a90 h2⟩
      rcases a34.1 hz with rfl | hz
      · exact (a7p hne).resolve_left hxy
      · exact h1 z hz
def ord (l : List AS) : List AS := l.foldl (fun o x => lb x o) []
theorem a72 : ∀ {l o : List AS}, t8 o → t8 (l.foldl (fun o x => lb x o) o) ∧ ∀ z, z ∈ l.foldl (fun o x => lb x o) o ↔ z ∈ o ∨ z ∈ l
 | [], o, h => ⟨h, fun z => by simp⟩
 | x :: l, o, h => by
  obtain ⟨h1, h2⟩ := a72 (l := l) (a90 (x := x) h)
  refine ⟨h1, fun z => ?_⟩
  show z ∈ l.foldl (fun o x => lb x o) (lb x o) ↔ _
  rw [h2 z, a34, List.mem_cons]
  constructor
  · rintro ((h | h) | h) <;> simp [h]
  · rintro (h | h | h) <;> simp [h]
theorem ac3 (l : List AS) : t8 (ord l) := (a72 (o := []) List.Pairwise.nil).1
theorem lw {l : List AS} {z : AS} : z ∈ ord l ↔ z ∈ l := by
 show z ∈ l.foldl (fun o x => lb x o) [] ↔ _
 rw [(a72 (l := l) (o := []) List.Pairwise.nil).2 z]
 simp
theorem ay3 {l k : List AS} (hk : t8 k) (h : ∀ z, z ∈ k ↔ z ∈ l) : k = ord l := a2a hk (ac3 l) fun z => by rw [h z, lw]
end Go.Hx
end
section
namespace Go.Hx
def b5 (s : AS) : List Nat := (List.range 32).filter fun i => s.getLsbD i
def iC : Nat → Nat → PV := fun n _ => .raw (.int .i64 (n : Int))
abbrev il (l : List Nat) : PV := psl 1 iC l
theorem a9d (s : AS) : bsz s = (b5 s).length := by unfold bsz b5; rw [List.countP_eq_length_filter]
theorem ip {s : AS} {i : Nat} : i ∈ b5 s ↔ i < 32 ∧ s.getLsbD i = true := by simp [b5, List.mem_filter, List.mem_range]
theorem a0u {p : Nat → Bool} {t : Nat} : ∀ {l : List Nat}, l.Pairwise (· < ·) → t ∈ l → p t = true → (∀ k, k < t → p k = false) → l.filter p = t :: l.filter fun k => decide (k ≠ t) && p k
 | [], _, h, _, _ => by cases h
 | a :: l, hp, hm, h1, h2 => by
  obtain ⟨q1, q2⟩ := List.pairwise_cons.1 hp
  by_cases ha : a = t
  · subst ha
    have e : l.filter p = l.filter fun k => decide (k ≠ a) && p k := by
     apply List.filter_congr
     intro k hk
     have := q1 k hk
     rw [decide_eq_true (by omega), Bool.true_and]
    simp [List.filter_cons, h1, e]
  · have hm' : t ∈ l := by
     rcases List.mem_cons.1 hm with h | h
     · exact absurd h.symm ha
     · exact h
    have := q1 t hm'
    have hpa := h2 a this
    simp [List.filter_cons, hpa, a0u q2 hm' h1 h2]
def en (s : AS) : Nat := Lib.ctz 32 s.toNat
theorem ann {s : AS} (h : s ≠ 0) : ∃ m, s.toNat = 2 ^ (en s + 1) * m + 2 ^ en s ∧ en s < 32 := by
 have h0 : s.toNat ≠ 0 := fun e => h (BitVec.eq_of_toNat_eq e)
 obtain ⟨m, h1, h2⟩ := Lib.ctzFrom_spec 32 s.toNat (by omega) s.isLt
 have e : en s = Lib.ctzFrom 32 s.toNat := by unfold en Lib.ctz; rw [if_neg h0]
 rw [e]
 refine ⟨m, ?_, h2⟩
 rw [Nat.pow_succ]
 rw [h1] at *
 simp only [Nat.mul_add, Nat.mul_assoc, Nat.mul_one] at *
 exact h1
theorem me {s : AS} (h : s ≠ 0) : en s < 32 ∧ s.getLsbD (en s) = true ∧ (∀ k, k < en s → s.getLsbD k = false) ∧ s &&& (s - 1) = s &&& ~~~((1 : AS) <<< en s) := by
 obtain ⟨m, h1, h2⟩ := ann h
 generalize en s = t at *
 have hp : 2 ^ t < 2 ^ (t + 1) := Nat.pow_lt_pow_right (by omega) (by omega)
 have hb : ∀ k, s.getLsbD k = if k < t + 1 then (2 ^ t).testBit k else m.testBit (k - (t + 1)) := fun k => by
  show s.toNat.testBit k = _
  rw [h1, Nat.testBit_two_pow_mul_add _ hp]
 have hq : 0 < 2 ^ t := Nat.two_pow_pos t
 have e1 : (s - 1).toNat = 2 ^ (t + 1) * m + (2 ^ t - 1) := by
  have := s.isLt
  rw [BitVec.toNat_sub]
  show (2 ^ 32 - 1 + s.toNat) % 2 ^ 32 = _
  omega
 have hd : ∀ k, (s - 1).getLsbD k = if k < t + 1 then (2 ^ t - 1).testBit k else m.testBit (k - (t + 1)) := fun k => by
  show (s - 1).toNat.testBit k = _
  rw [e1, Nat.testBit_two_pow_mul_add _ (by omega)]
 refine ⟨h2, ?_, fun k hk => ?_, ?_⟩
 · rw [hb, if_pos (by omega), Nat.testBit_two_pow_self]
 · rw [hb, if_pos (by omega), Nat.testBit_two_pow]
   simp; omega
 · apply BitVec.eq_of_getLsbD_eq
   intro k hk
   rw [BitVec.getLsbD_and, BitVec.getLsbD_and, BitVec.getLsbD_not, eg _ _ hk, hd k, hb k]
   by_cases h3 : k < t + 1
   · rw [if_pos h3, if_pos h3, Nat.testBit_two_pow, Nat.testBit_two_pow_sub_one]
     by_cases h4 : k = t
     · subst h4; simp
     · have : ¬ t = k := fun e => h4 e.symm
       simp [this]
   · rw [if_neg h3, if_neg h3]
     have : ¬ k = t := by omega
     simp [hk, this]
theorem a0n {s : AS} (h : s ≠ 0) (k : Nat) (hk : k < 32) : (s &&& (s - 1)).getLsbD k = (decide (k ≠ en s) && s.getLsbD k) := by
 rw [(me h).2.2.2, BitVec.getLsbD_and, BitVec.getLsbD_not, eg _ _ hk]
 by_cases e : k = en s <;> simp [e, hk, Bool.and_comm]
theorem ajc {s : AS} (h : s ≠ 0) : b5 s = en s :: b5 (s &&& (s - 1)) := by
 obtain ⟨h1, h2, h3, _⟩ := me h
 unfold b5
 rw [a0u List.pairwise_lt_range (List.mem_range.2 h1) h2 h3]
 congr 1
 apply List.filter_congr
 intro k hk
 rw [a0n h k (List.mem_range.1 hk)]
theorem ahf : b5 0 = [] := by
 unfold b5
 rw [List.filter_eq_nil_iff]
 intro k _
 simp
theorem apu {s : AS} (h : s ≠ 0) : (s &&& (s - 1)).toNat < s.toNat := by
 refine qf (az.2 fun i hi hb => ?_) fun e => ?_
 · rw [a0n h i hi] at hb
   simp only [Bool.and_eq_true] at hb
   exact hb.2
 · have := a0n h (en s) (me h).1
   rw [e, (me h).2.1] at this
   simp at this
end Go.Hx
end
