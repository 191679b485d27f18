/- A part of the proof: V4 Cs5 Cs2 Cs6. -/
import Derived.Lib.TrailingZeros
import Derived.Test.YtidophngianjiaaGreatDoor5x15
set_option linter.all false
section
namespace Go.Hx
open Go.Proofs
set_option maxRecDepth 100000
set_option maxHeartbeats 1000000
theorem ac1 : goodFn Tryz.prog 22 := ⟨Tryz.f22, Tryz.func22, by kernel_rfl, by kernel_rfl⟩
theorem a8s (n : Nat) (c : Bool) (f : Nat → Nat → PV) (hn : n ≤ 35184372088832) :
 eg Tryz.prog 22 [.one (.p (.sl n 1 c f))] [] (.v (.one (.ref 0 n))) [(0, .arr true 1 38 n f)] [] := by
 refine jb (nt := 8) ah Tryz.func22 rfl rfl l9 rfl ?_; refine sx7 ?_; refine bv true rfl rfl rfl rfl rfl trivial ?_; refine a6 ?_
 refine wq (ι := Bool) (fun c => ⟨[(0, some (bf (.sl n 1 c f)))], []⟩) (fun _ => True) ?_ fun c _ => ?_
 · rcases Nat.eq_zero_or_pos n with hz | h0
   · subst hz
     refine hw_exact' 0 rfl fun ad cap hcap => ?_
     refine sx7 ?_; (iterate 2 refine bv true rfl rfl rfl rfl rfl trivial ?_); refine a6 ?_; refine a8 ad.isNone rfl (fun hc => ?_) (fun hc => ?_)
     · refine sx7 ?_
       refine bv true rfl rfl rfl rfl rfl trivial ?_; refine a6 ?_; refine gf 2 0 true 1 38 f (by decide) rfl (CoP.sl rfl (.inr rfl) (fun h => h) fun i j hi _ => absurd hi (Nat.not_lt_zero i)) (.inr rfl) rfl ?_
       refine bi ?_; refine ⟨.inr rfl, ?_⟩
       exact ⟨_, _, rfl, trivial, CoR.refl _, ⟨u9, trivial⟩⟩
     · refine aa ?_
       exact ⟨false, trivial, ⟨⟨_, rfl, CoP.raw_sl hcap⟩, trivial⟩, trivial⟩
   · refine sx7 ?_
     refine bv true rfl rfl rfl rfl rfl trivial ?_; refine bv true rfl rfl rfl rfl rfl h0 ?_; refine a6 ?_; refine a8 false rfl (fun hc => by cases hc) (fun hc => ?_); refine aa ?_
     exact ⟨c, trivial, ⟨c9, trivial⟩, trivial⟩
 · refine sx7 ?_
   refine s5 0 rfl rfl rfl rfl rfl rfl trivial ?_; refine bv true rfl rfl rfl rfl rfl trivial ?_
   refine a01 0 true rfl rfl rfl rfl rfl rfl ⟨trivial, rfl, rfl, rfl, .inl rfl, by show 0 + n ≤ 9223372036854775807; omega, by show (0 + n) * 4 ≤ 140737488355328; omega, fun _ => .inl rfl⟩ ?_
   refine bv true rfl rfl rfl rfl rfl trivial ?_; refine a6 ?_; refine bi ?_; refine ⟨.inr rfl, ?_⟩
   refine ⟨_, _, rfl, trivial, CoR.of_eq (by show HR.v (.one (.ref 0 (0 + n))) = _; rw [Nat.zero_add]), ⟨⟨_, rfl, ?_⟩, trivial⟩⟩
   exact ⟨fun h => h, rfl, rfl, (Nat.zero_add n).symm, fun i j _ _ => CoP.of_eq (by simp [ej])⟩
theorem ajf : goodFn Tryz.prog 116 := ⟨Tryz.f116, Tryz.func116, by kernel_rfl, by kernel_rfl⟩
theorem aqi (l : List Fd) (g k : Nat) (caps : Nat → PV) (V : Fd → Bool) (hg : goodFn Tryz.prog g) (hV : ∀ x, ai Tryz.prog g (x.pc :: ep caps k 0) (al [pB (V x)])) : ai Tryz.prog 116 [pP (fdl l), pP (.fn g k caps)] (al [pI (idx V l)]) := by
 refine aj (nt := 19) ah Tryz.func116 rfl rfl l9 ?_; refine a7 ?_
 refine en 0 rfl fun hn => ?_
 refine gy ?_; refine qy ?_; refine a6 ?_; refine ef (ι := Unit) ⟨[], []⟩ ⟨trivial, trivial⟩ (fun _i => ⟨[], []⟩) (fun _i => idx V l = -1) ?_ ?_
 ·
  refine sx7 ?_; (iterate 3 refine qy ?_); refine a6 ?_; refine ab ?_
  refine ao (ι := Nat) ⟨[(0, some _), (1, some _), (7, some _)], []⟩ ⟨⟨c9, c9, c9, trivial⟩, trivial⟩ (fun i => ⟨[(8, some (vI i))], []⟩) (fun i => i ≤ l.length ∧ (∀ j, j < i → V (l.getD j default) = false)) (fun i => l.length - i) (0) (⟨Nat.zero_le _, d3⟩) ⟨⟨zy, trivial⟩, trivial⟩ ?_
  rintro i ⟨hi, hI⟩
  refine sx7 ?_; refine qy ?_; refine a6 ?_; refine a7 ?_; refine a8 _ rfl (fun r0 => ?_) (fun r0 => ?_)
  ·
   have h0 := of_decide_eq_true r0
   try simp only [ty] at h0
   refine aa ?_; refine a7 ?_; refine ab ?_; refine sx7 ?_; (iterate 2 refine qy ?_); refine a6 ?_; refine sx7 ?_; (iterate 5 refine qy ?_)
   refine rc rfl rfl rfl rfl rfl rfl hg (hV (l.getD i default)) (CoL.refl _) rfl rfl ?_; refine a6 ?_; refine a8 _ rfl (fun r1 => ?_) (fun r1 => ?_)
   ·
    have h1 := r1
    refine sx7 ?_; (iterate 2 refine qy ?_); refine a6 ?_
    exact hx8 rfl rfl rfl (⟨cci (a3g (i := i) (by omega) hI h1).symm, trivial⟩)
   ·
    have h1 := r1
    refine aa ?_; refine gy ?_; (iterate 2 refine qy ?_); refine a6 ?_; refine ⟨i + 1, ?_, ?_, ?_⟩
    · exact ⟨by show i + 1 ≤ _; omega, c8 hI (h1)⟩
    · first | omega | (dsimp only; omega)
    · exact ⟨⟨zy, c9, c9, c9, trivial⟩, trivial⟩
  ·
   have h0 := of_decide_eq_false r0
   try simp only [ty] at h0
   refine ar ?_; refine ⟨(), ?_, ?_⟩
   · exact a3p fun j hj => hI j (by omega)
   · exact ⟨trivial, trivial⟩
 · rintro _ hj
   refine sx7 ?_; refine qy ?_; refine a6 ?_
   exact hx8 rfl rfl rfl (⟨cci hj.symm, trivial⟩)
theorem a82 : goodFn Tryz.prog 121 := ⟨Tryz.f121, Tryz.func121, by kernel_rfl, by kernel_rfl⟩
theorem aiw (l : List AS) (g k : Nat) (caps : Nat → PV) (V : AS → Bool) (hg : goodFn Tryz.prog g) (hV : ∀ x, ai Tryz.prog g (pA x :: ep caps k 0) (al [pB (V x)])) : ai Tryz.prog 121 [pP (asl l), pP (.fn g k caps)] (al [pI (idx V l)]) := by
 refine aj (nt := 19) ah Tryz.func121 rfl rfl l9 ?_; refine a7 ?_
 refine en 0 rfl fun hn => ?_
 refine gy ?_; refine qy ?_; refine a6 ?_; refine ef (ι := Unit) ⟨[], []⟩ ⟨trivial, trivial⟩ (fun _i => ⟨[], []⟩) (fun _i => idx V l = -1) ?_ ?_
 ·
  refine sx7 ?_; (iterate 3 refine qy ?_); refine a6 ?_; refine ab ?_
  refine ao (ι := Nat) ⟨[(0, some _), (1, some _), (7, some _)], []⟩ ⟨⟨c9, c9, c9, trivial⟩, trivial⟩ (fun i => ⟨[(8, some (vI i))], []⟩) (fun i => i ≤ l.length ∧ (∀ j, j < i → V (l.getD j default) = false)) (fun i => l.length - i) (0) (⟨Nat.zero_le _, d3⟩) ⟨⟨zy, trivial⟩, trivial⟩ ?_
  rintro i ⟨hi, hI⟩
  refine sx7 ?_; refine qy ?_; refine a6 ?_; refine a7 ?_; refine a8 _ rfl (fun r0 => ?_) (fun r0 => ?_)
  ·
   have h0 := of_decide_eq_true r0
   try simp only [ty] at h0
   refine aa ?_; refine a7 ?_; refine ab ?_; refine sx7 ?_; (iterate 2 refine qy ?_); refine a6 ?_; refine sx7 ?_; (iterate 5 refine qy ?_)
   refine rc rfl rfl rfl rfl rfl rfl hg (hV (l.getD i default)) (CoL.refl _) rfl rfl ?_; refine a6 ?_; refine a8 _ rfl (fun r1 => ?_) (fun r1 => ?_)
   ·
    have h1 := r1
    refine sx7 ?_; (iterate 2 refine qy ?_); refine a6 ?_
    exact hx8 rfl rfl rfl (⟨cci (a3g (i := i) (by omega) hI h1).symm, trivial⟩)
   ·
    have h1 := r1
    refine aa ?_; refine gy ?_; (iterate 2 refine qy ?_); refine a6 ?_; refine ⟨i + 1, ?_, ?_, ?_⟩
    · exact ⟨by show i + 1 ≤ _; omega, c8 hI (h1)⟩
    · first | omega | (dsimp only; omega)
    · exact ⟨⟨zy, c9, c9, c9, trivial⟩, trivial⟩
  ·
   have h0 := of_decide_eq_false r0
   try simp only [ty] at h0
   refine ar ?_; refine ⟨(), ?_, ?_⟩
   · exact a3p fun j hj => hI j (by omega)
   · exact ⟨trivial, trivial⟩
 · rintro _ hj
   refine sx7 ?_; refine qy ?_; refine a6 ?_
   exact hx8 rfl rfl rfl (⟨cci hj.symm, trivial⟩)
theorem akx : goodFn Tryz.prog 110 := ⟨Tryz.f110, Tryz.func110, by kernel_rfl, by kernel_rfl⟩
theorem aq5 (l : List Fd) (g k : Nat) (caps : Nat → PV) (V : Fd → Bool) (hg : goodFn Tryz.prog g) (hV : ∀ x, ai Tryz.prog g (x.pc :: ep caps k 0) (al [pB (V x)])) : ai Tryz.prog 110 [pP (fdl l), pP (.fn g k caps)] (al [pB (l.any V)]) := by
 refine aj (nt := 9) ah Tryz.func110 rfl rfl l9 ?_; refine sx7 ?_; refine qy ?_; refine a6 ?_; refine sx7 ?_; (iterate 2 refine qy ?_)
 refine rc rfl rfl rfl rfl rfl rfl ajf (aqi l g k caps V hg hV) (CoL.refl _) rfl rfl ?_; (iterate 2 refine qy ?_); refine a6 ?_
 exact hx8 rfl rfl rfl (⟨ccb a0g, trivial⟩)
theorem anu : goodFn Tryz.prog 65 := ⟨Tryz.f65, Tryz.func65, by kernel_rfl, by kernel_rfl⟩
theorem aq2 (l : List AS) (g k : Nat) (caps : Nat → PV) (V : AS → Bool) (hg : goodFn Tryz.prog g) (hV : ∀ x, ai Tryz.prog g (pA x :: ep caps k 0) (al [pB (V x)])) : ai Tryz.prog 65 [pP (asl l), pP (.fn g k caps)] (al [pB (l.any V)]) := by
 refine aj (nt := 9) ah Tryz.func65 rfl rfl l9 ?_; refine sx7 ?_; refine qy ?_; refine a6 ?_; refine sx7 ?_; (iterate 2 refine qy ?_)
 refine rc rfl rfl rfl rfl rfl rfl a82 (aiw l g k caps V hg hV) (CoL.refl _) rfl rfl ?_; (iterate 2 refine qy ?_); refine a6 ?_
 exact hx8 rfl rfl rfl (⟨ccb a0g, trivial⟩)
theorem am3 : goodFn Tryz.prog 122 := ⟨Tryz.f122, Tryz.func122, by kernel_rfl, by kernel_rfl⟩
theorem apa (l : List AS) (g k : Nat) (caps : Nat → PV) (V : AS → Bool) (hg : goodFn Tryz.prog g) (hV : ∀ x, ai Tryz.prog g (pA x :: ep caps k 0) (al [pB (V x)])) : eg Tryz.prog 122 [.one (.ref 900 l.length), .one (.p (.fn g k caps))] [(900, .arr true 1 38 l.length (lf sC l))] (.v (.one (.p (asl (l.filter fun x => !V x))))) [] [] := by
 refine jb (nt := 42) ah Tryz.func122 rfl rfl l9 rfl ?_; refine a7 ?_
 refine a9p 900 rfl fun hlen => ?_
 refine gy ?_; refine qy ?_; refine a6 ?_; refine sx7 ?_; (iterate 2 refine qy ?_); refine rc rfl rfl rfl rfl rfl rfl a82 (aiw l g k caps V hg hV) (CoL.refl _) rfl rfl ?_; refine qy ?_; refine a6 ?_; refine a7 ?_
 refine sx7 ?_; (iterate 2 refine qy ?_); refine a6 ?_; refine a8 _ rfl (fun r0 => ?_) (fun r0 => ?_)
 ·
  have h0 := of_decide_eq_true r0
  try simp only [ty] at h0
  refine sx7 ?_; (iterate 2 refine qy ?_); refine a6 ?_; refine ce 4 rfl rfl rfl ?_; refine bi ?_; refine ⟨.inr rfl, ?_⟩
  exact ⟨_, _, rfl, (by (repeat' apply And.intro) <;> first | trivial | exact Nat.le_of_ble_eq_true rfl), alr (ag3 (by assumption)), trivial⟩
 ·
  have h0 := of_decide_eq_false r0
  try simp only [ty] at h0
  obtain ⟨i0, hi0, hi1, hi2, hi3⟩ := ahx h0
  refine aa ?_; refine a7 ?_; refine sx7 ?_; (iterate 3 refine qy ?_); refine a6 ?_; refine ab ?_
  refine ao (ι := Nat × Nat × List AS) ⟨[(0, some _), (1, some _)], []⟩ ⟨⟨c9, c9, trivial⟩, trivial⟩ (fun x => ⟨[(5, some (vI x.1)), (6, some (vI x.2.1))], [(900, some (.arr true 1 38 l.length (lf sC x.2.2)))]⟩) (fun x => DfI V l x.1 x.2.1 x.2.2) (fun x => l.length - x.2.1) ((i0, i0 + 1, l)) (DfI.start hi1 hi2 hi3) ⟨⟨⟨_, rfl, (coi hi0)⟩, ⟨_, rfl, (coi (by dsimp only; omega))⟩, trivial⟩, ⟨u9, trivial⟩⟩ ?_
  rintro x hC
  have hC0 := hC
  obtain ⟨hml, hkq, hql, _, _⟩ := hC0
  refine a7 ?_; refine sx7 ?_; (iterate 4 refine qy ?_); refine a6 ?_; refine a8 _ rfl (fun r1 => ?_) (fun r1 => ?_)
  ·
   have h1 := of_decide_eq_true r1
   try simp only [ty] at h1
   refine aa ?_; refine a7 ?_; refine ab ?_; refine sx7 ?_; (iterate 5 refine qy ?_); refine a6 ?_; refine sx7 ?_; (iterate 2 refine qy ?_)
   refine rc rfl rfl rfl rfl rfl rfl hg (hV (x.2.2.getD (x.2.1 : Int).toNat default)) (CoL.refl _) rfl rfl ?_; refine qy ?_; refine a6 ?_; refine a8 _ rfl (fun r2 => ?_) (fun r2 => ?_)
   ·
    have h2 := r2
    have h2 := b8 h2
    have hv := h2
    refine sx7 ?_; (iterate 4 refine qy ?_); refine s9 ?_; refine a6 ?_; refine gy ?_; (iterate 3 refine qy ?_); refine a6 ?_; refine gy ?_; (iterate 3 refine qy ?_); refine a6 ?_
    first | (refine ⟨(x.1 + 1, x.2.1 + 1, x.2.2.set x.1 (x.2.2.getD x.2.1 default)), ?_, ?_, ?_⟩
             · exact hC.keep (by omega) (by simpa using hv)
             · first | omega | (dsimp only; omega)
             · exact ⟨⟨⟨_, rfl, (coi (by first | rfl | (dsimp only; omega)))⟩, ⟨_, rfl, (coi (by first | rfl | (dsimp only; omega)))⟩, c9, c9, trivial⟩, ⟨⟨_, rfl, (nf id hml.symm (by omega) (by omega) (by omega))⟩, trivial⟩⟩)
          | (refine ⟨(x.1, x.2.1 + 1, x.2.2), ?_, ?_, ?_⟩
             · exact hC.skip (by omega) (by simpa using hv)
             · first | omega | (dsimp only; omega)
             · exact ⟨⟨⟨_, rfl, (coi (by first | rfl | (dsimp only; omega)))⟩, ⟨_, rfl, (coi (by first | rfl | (dsimp only; omega)))⟩, c9, c9, trivial⟩, ⟨u9, trivial⟩⟩)
   ·
    have h2 := r2
    have h2 := b7 h2
    have hv := h2
    refine aa ?_; refine gy ?_; (iterate 3 refine qy ?_); refine a6 ?_
    first | (refine ⟨(x.1 + 1, x.2.1 + 1, x.2.2.set x.1 (x.2.2.getD x.2.1 default)), ?_, ?_, ?_⟩
             · exact hC.keep (by omega) (by simpa using hv)
             · first | omega | (dsimp only; omega)
             · exact ⟨⟨⟨_, rfl, (coi (by first | rfl | (dsimp only; omega)))⟩, ⟨_, rfl, (coi (by first | rfl | (dsimp only; omega)))⟩, c9, c9, trivial⟩, ⟨⟨_, rfl, (nf id hml.symm (by omega) (by omega) (by omega))⟩, trivial⟩⟩)
          | (refine ⟨(x.1, x.2.1 + 1, x.2.2), ?_, ?_, ?_⟩
             · exact hC.skip (by omega) (by simpa using hv)
             · first | omega | (dsimp only; omega)
             · exact ⟨⟨⟨_, rfl, (coi (by first | rfl | (dsimp only; omega)))⟩, ⟨_, rfl, (coi (by first | rfl | (dsimp only; omega)))⟩, c9, c9, trivial⟩, ⟨u9, trivial⟩⟩)
  ·
   have h1 := of_decide_eq_false r1
   try simp only [ty] at h1
   have hq := h1
   refine ar ?_; refine sx7 ?_; (iterate 3 refine qy ?_); refine ra 0 true rfl rfl rfl rfl rfl rfl ?_; refine a6 ?_; refine sx7 ?_; (iterate 2 refine qy ?_); refine ahb rfl rfl rfl rfl rfl ?_; refine qy ?_
   refine a6 ?_; refine bi ?_; refine ⟨.inr rfl, ?_⟩
   exact ⟨_, _, rfl, (by (repeat' apply And.intro) <;> first | trivial | exact Nat.le_of_ble_eq_true rfl), aki hC (by omega) (by simp [be]), trivial⟩
end Go.Hx
end
section
namespace Go.Hx
def dm (s : AS) (i : Int) : Bool := decide (0 ≤ i ∧ i < 32) && s.getLsbD i.toNat
theorem sh {s : AS} {i : Nat} (h : i < 32) : dm s i = s.getLsbD i := by
 unfold dm
 rw [decide_eq_true (by omega)]
 simp
theorem apt {s : AS} {i : Int} (h0 : 0 ≤ i) (h1 : i < 32) : decide (cq .and .u32 ((asI s).fdiv (2 ^ (min i.toNat 32))) 1 = 1) = dm s i := by
 unfold dm
 rw [pf, show (1 : Int) = asI 1 from rfl, gv, decide_eq_true (show 0 ≤ i ∧ i < 32 from ⟨h0, h1⟩), Bool.true_and]
 have e : asI (s >>> i.toNat &&& 1) = asI 1 ↔ s.getLsbD i.toNat = true := by
  rw [dp]
  constructor
  · intro h
    have := congrArg (fun x : AS => x.getLsbD 0) h
    simpa using this
  · intro h
    apply BitVec.eq_of_getLsbD_eq
    intro k hk
    have h1 : (1 : AS).getLsbD k = decide (k = 0) := by have := w5 0 k hk; simpa using this
    rw [BitVec.getLsbD_and, BitVec.getLsbD_ushiftRight, h1]
    by_cases hk0 : k = 0
    · subst hk0; simp [h]
    · simp [hk0]
 cases hb : s.getLsbD i.toNat with
 | true => exact decide_eq_true (e.2 hb)
 | false => exact decide_eq_false fun h => by rw [e.1 h] at hb; cases hb
theorem anr {s : AS} {i : Int} (h : ¬ (0 ≤ i ∧ i < 32)) : dm s i = false := by
 unfold dm
 rw [decide_eq_false h]
 rfl
theorem a79 {n : Nat} (h : n ≤ 32) : er n = BitVec.ofNat 32 (2 ^ n - 1) := by
 apply BitVec.eq_of_getLsbD_eq
 intro k hk
 rw [ke n k hk, BitVec.getLsbD_ofNat, Nat.testBit_two_pow_sub_one]
 simp [hk]
theorem a78 {n : Nat} (h : n ≤ 32) : (er n).toNat = 2 ^ n - 1 := by
 have h2 : 2 ^ n ≤ 2 ^ 32 := Nat.pow_le_pow_right (by omega) h
 have h3 : 0 < 2 ^ n := Nat.two_pow_pos n
 rw [a79 h, BitVec.toNat_ofNat, Nat.mod_eq_of_lt (by omega)]
theorem a26 {n : Int} {l : List Fd} (h : cb n l = 0) : 0 ≤ n ∧ n ≤ 16 ∧ l.length ≤ 64 ∧ l.all (inU n) = true := by
 unfold cb at h
 split at h
 · cases h
 · split at h
   · cases h
   · split at h
     · rename_i h1 h2 h3
       exact ⟨by omega, by omega, by omega, h3⟩
     · cases h
theorem mc {n : Int} (h0 : 0 ≤ n) (h1 : n ≤ 16) : IntKind.wrap .u32 (1 * 2 ^ (min n.toNat 32)) - 1 = asI (ay n) := by
 have h2 : 2 ^ n.toNat ≤ 2 ^ 16 := Nat.pow_le_pow_right (by omega) (by omega)
 have h3 : 0 < 2 ^ n.toNat := Nat.two_pow_pos _
 rw [show IntKind.wrap .u32 (1 * 2 ^ (min n.toNat 32)) = asI ((1 : AS) <<< n.toNat) from agh 1 n.toNat]
 unfold ay asI
 rw [Nat.min_eq_left (by omega), a78 (by omega), BitVec.toNat_shiftLeft, Nat.shiftLeft_eq]
 rw [show (1 : AS).toNat = 1 from rfl, Nat.one_mul, Nat.mod_eq_of_lt (by omega)]
 omega
theorem so {n : Int} (h0 : 0 ≤ n) (h1 : n ≤ 16) : 0 ≤ IntKind.wrap .u32 (1 * 2 ^ (min n.toNat 32)) - 1 := by rw [mc h0 h1]; exact a0e _
theorem ot {n : Int} (h0 : 0 ≤ n) (h1 : n ≤ 16) : IntKind.wrap .u32 (1 * 2 ^ (min n.toNat 32)) - 1 ≤ 4294967295 := by rw [mc h0 h1]; have := a4m (ay n); omega
def a1k (n : Int) (l : List Fd) (s : AS) : Bool := decide (cb n l = 0 ∧ sub s (ay n) ∧ clo l s = ay n)
section
variable {n : Int} {l : List Fd} {s : AS}
end
def y7 (n : Int) (l : List Fd) (m : Int) : Int := if cb n l = 0 then (if m < n then 3 else 0) else cb n l
structure Dp where
 l : BitVec 8
 r : BitVec 8
deriving Inhabited
def Dp.c (d : Dp) : Nat → PV
 | 0 => .raw (.int .u8 (d.l.toNat : Int))
 | 1 => .raw (.int .u8 (d.r.toNat : Int))
 | _ => .any
abbrev dpl (l : List Dp) : PV := psl 2 Dp.c l
def Dp.fd (n : Int) (d : Dp) : Fd := ⟨d.l.setWidth 32 &&& ay n, d.r.setWidth 32 &&& ay n⟩
theorem adn (b : BitVec 8) (t : AS) : cq .and .u32 (b.toNat : Int) (asI t) = asI (b.setWidth 32 &&& t) := by
 have h := b.isLt
 have e : asI (b.setWidth 32) = (b.toNat : Int) := by
  unfold asI
  rw [BitVec.toNat_setWidth, Nat.mod_eq_of_lt (by omega)]
 rw [← gv, e]
end Go.Hx
end
section
namespace Go.Hx
def bsz (s : AS) : Nat := (List.range 32).countP fun i => s.getLsbD i
def bef (a b : AS) : Bool := decide (bsz a < bsz b) || (decide (bsz a = bsz b) && decide (a.toNat < b.toNat))
theorem rr (a : AS) : bef a a = false := by simp [bef]
theorem k6 {a b : AS} : bef a b = true ↔ bsz a < bsz b ∨ (bsz a = bsz b ∧ a.toNat < b.toNat) := by simp [bef]
theorem oe {a b c : AS} (h : bef a b = true) (k : bef b c = true) : bef a c = true := by
 rw [k6] at *
 omega
theorem a1m {a b : AS} (h : a ≠ b) : bef a b = true ∨ bef b a = true := by
 have hn : a.toNat ≠ b.toNat := fun e => h (BitVec.eq_of_toNat_eq e)
 rw [k6, k6]
 omega
theorem agv {a b : AS} (h : bef a b = true) : bef b a = false := by
 rw [Bool.eq_false_iff]
 intro k
 have := oe h k
 rw [rr] at this
 cases this
def mh (l : List AS) : Prop := l.Pairwise fun a b => bef a b = true
theorem pe : ∀ {l k : List AS}, mh l → mh k → (∀ x, x ∈ l ↔ x ∈ k) → l = k
 | [], [], _, _, _ => rfl
 | [], y :: k, _, _, h => absurd ((h y).2 (List.mem_cons_self ..)) (by simp)
 | x :: l, [], _, _, h => absurd ((h x).1 (List.mem_cons_self ..)) (by simp)
 | x :: l, y :: k, hl, hk, h => by
  obtain ⟨h1, h2⟩ := List.pairwise_cons.1 hl
  obtain ⟨k1, k2⟩ := List.pairwise_cons.1 hk
  have e : x = y := by
   rcases List.mem_cons.1 ((h x).1 (List.mem_cons_self ..)) with e | hx
   · exact e
   · rcases List.mem_cons.1 ((h y).2 (List.mem_cons_self ..)) with e | hy
     · exact e.symm
     · have := agv (k1 x hx)
       rw [h1 y hy] at this
       cases this
  subst e
  congr 1
  refine pe h2 k2 fun z => ?_
  constructor
  · intro hz
    rcases List.mem_cons.1 ((h z).1 (List.mem_cons_of_mem _ hz)) with e | hz'
    · subst e
      have := h1 z hz
      rw [rr] at this
      cases this
    · exact hz'
  · intro hz
    rcases List.mem_cons.1 ((h z).2 (List.mem_cons_of_mem _ hz)) with e | hz'
    · subst e
      have := k1 z hz
      rw [rr] at this
      cases this
    · exact hz'
def ig (x : AS) : List AS → List AS
 | [] => [x]
 | y :: l => if x = y then y :: l else if bef x y = true then x :: y :: l else y :: ig x l
theorem yo {x z : AS} : ∀ {l : List AS}, z ∈ ig x l ↔ z = x ∨ z ∈ l
 | [] => by simp [ig]
 | y :: l => by
  unfold ig
  split
  · rename_i e
    subst e
    simp
  · split
    · simp
    · rw [List.mem_cons, yo, List.mem_cons]
      constructor
      · rintro (h | h | h) <;> simp [h]
      · rintro (h | h | h) <;> simp [h]
theorem a2e {x : AS} : ∀ {l : List AS}, mh l → mh (ig x l)
 | [], _ => by simp [ig, mh]
 | y :: l, h => by
  obtain ⟨h1, h2⟩ := List.pairwise_cons.1 h
  unfold ig
  split
  · exact h
  · split
    · rename_i hxy
      refine List.pairwise_cons.2 ⟨fun z hz => ?_, h⟩
      rcases List.mem_cons.1 hz with rfl | hz
      · exact hxy
      · exact oe hxy (h1 z hz)
    · rename_i hne hxy
      refine List.pairwise_cons.2 ⟨fun z hz => ?_, a2e h2⟩
      rcases yo.1 hz with rfl | hz
      · exact (a1m hne).resolve_left hxy
      · exact h1 z hz
def ord (l : List AS) : List AS := l.foldl (fun o x => ig x o) []
theorem a0x : ∀ {l o : List AS}, mh o → mh (l.foldl (fun o x => ig x o) o) ∧ ∀ z, z ∈ l.foldl (fun o x => ig x o) o ↔ z ∈ o ∨ z ∈ l
 | [], o, h => ⟨h, fun z => by simp⟩
 | x :: l, o, h => by
  obtain ⟨h1, h2⟩ := a0x (l := l) (a2e (x := x) h)
  refine ⟨h1, fun z => ?_⟩
  show z ∈ l.foldl (fun o x => ig x o) (ig x o) ↔ _
  rw [h2 z, yo, List.mem_cons]
  constructor
  · rintro ((h | h) | h) <;> simp [h]
  · rintro (h | h | h) <;> simp [h]
theorem te (l : List AS) : mh (ord l) := (a0x (o := []) List.Pairwise.nil).1
theorem ne {l : List AS} {z : AS} : z ∈ ord l ↔ z ∈ l := by
 show z ∈ l.foldl (fun o x => ig x o) [] ↔ _
 rw [(a0x (l := l) (o := []) List.Pairwise.nil).2 z]
 simp
theorem aoa {l k : List AS} (hk : mh k) (h : ∀ z, z ∈ k ↔ z ∈ l) : k = ord l := pe hk (te l) fun z => by rw [h z, ne]
end Go.Hx
end
section
namespace Go.Hx
def aw (s : AS) : List Nat := (List.range 32).filter fun i => s.getLsbD i
def iC : Nat → Nat → PV := fun n _ => .raw (.int .i64 (n : Int))
abbrev il (l : List Nat) : PV := psl 1 iC l
theorem ou (s : AS) : bsz s = (aw s).length := by unfold bsz aw; rw [List.countP_eq_length_filter]
theorem md {s : AS} {i : Nat} : i ∈ aw s ↔ i < 32 ∧ s.getLsbD i = true := by simp [aw, List.mem_filter, List.mem_range]
theorem u5 {p : Nat → Bool} {t : Nat} : ∀ {l : List Nat}, l.Pairwise (· < ·) → t ∈ l → p t = true → (∀ k, k < t → p k = false) → l.filter p = t :: l.filter fun k => decide (k ≠ t) && p k
 | [], _, h, _, _ => by cases h
 | a :: l, hp, hm, h1, h2 => by
  obtain ⟨q1, q2⟩ := List.pairwise_cons.1 hp
  by_cases ha : a = t
  · subst ha
    have e : l.filter p = l.filter fun k => decide (k ≠ a) && p k := by
     apply List.filter_congr
     intro k hk
     have := q1 k hk
     rw [decide_eq_true (by omega), Bool.true_and]
    simp [List.filter_cons, h1, e]
  · have hm' : t ∈ l := by
     rcases List.mem_cons.1 hm with h | h
     · exact absurd h.symm ha
     · exact h
    have := q1 t hm'
    have hpa := h2 a this
    simp [List.filter_cons, hpa, u5 q2 hm' h1 h2]
def iu (s : AS) : Nat := Lib.ctz 32 s.toNat
theorem agc {s : AS} (h : s ≠ 0) : ∃ m, s.toNat = 2 ^ (iu s + 1) * m + 2 ^ iu s ∧ iu s < 32 := by
 have h0 : s.toNat ≠ 0 := fun e => h (BitVec.eq_of_toNat_eq e)
 obtain ⟨m, h1, h2⟩ := Lib.ctzFrom_spec 32 s.toNat (by omega) s.isLt
 have e : iu s = Lib.ctzFrom 32 s.toNat := by unfold iu Lib.ctz; rw [if_neg h0]
 rw [e]
 refine ⟨m, ?_, h2⟩
 rw [Nat.pow_succ]
 rw [h1] at *
 simp only [Nat.mul_add, Nat.mul_assoc, Nat.mul_one] at *
 exact h1
theorem w3 {s : AS} (h : s ≠ 0) : iu s < 32 ∧ s.getLsbD (iu s) = true ∧ (∀ k, k < iu s → s.getLsbD k = false) ∧ s &&& (s - 1) = s &&& ~~~((1 : AS) <<< iu s) := by
 obtain ⟨m, h1, h2⟩ := agc h
 generalize iu s = t at *
 have hp : 2 ^ t < 2 ^ (t + 1) := Nat.pow_lt_pow_right (by omega) (by omega)
 have hb : ∀ k, s.getLsbD k = if k < t + 1 then (2 ^ t).testBit k else m.testBit (k - (t + 1)) := fun k => by
  show s.toNat.testBit k = _
  rw [h1, Nat.testBit_two_pow_mul_add _ hp]
 have hq : 0 < 2 ^ t := Nat.two_pow_pos t
 have e1 : (s - 1).toNat = 2 ^ (t + 1) * m + (2 ^ t - 1) := by
  have := s.isLt
  rw [BitVec.toNat_sub]
  show (2 ^ 32 - 1 + s.toNat) % 2 ^ 32 = _
  omega
 have hd : ∀ k, (s - 1).getLsbD k = if k < t + 1 then (2 ^ t - 1).testBit k else m.testBit (k - (t + 1)) := fun k => by
  show (s - 1).toNat.testBit k = _
  rw [e1, Nat.testBit_two_pow_mul_add _ (by omega)]
 refine ⟨h2, ?_, fun k hk => ?_, ?_⟩
 · rw [hb, if_pos (by omega), Nat.testBit_two_pow_self]
 · rw [hb, if_pos (by omega), Nat.testBit_two_pow]
   simp; omega
 · apply BitVec.eq_of_getLsbD_eq
   intro k hk
   rw [BitVec.getLsbD_and, BitVec.getLsbD_and, BitVec.getLsbD_not, w5 _ _ hk, hd k, hb k]
   by_cases h3 : k < t + 1
   · rw [if_pos h3, if_pos h3, Nat.testBit_two_pow, Nat.testBit_two_pow_sub_one]
     by_cases h4 : k = t
     · subst h4; simp
     · have : ¬ t = k := fun e => h4 e.symm
       simp [this]
   · rw [if_neg h3, if_neg h3]
     have : ¬ k = t := by omega
     simp [hk, this]
theorem up {s : AS} (h : s ≠ 0) (k : Nat) (hk : k < 32) : (s &&& (s - 1)).getLsbD k = (decide (k ≠ iu s) && s.getLsbD k) := by
 rw [(w3 h).2.2.2, BitVec.getLsbD_and, BitVec.getLsbD_not, w5 _ _ hk]
 by_cases e : k = iu s <;> simp [e, hk, Bool.and_comm]
theorem aeo {s : AS} (h : s ≠ 0) : aw s = iu s :: aw (s &&& (s - 1)) := by
 obtain ⟨h1, h2, h3, _⟩ := w3 h
 unfold aw
 rw [u5 List.pairwise_lt_range (List.mem_range.2 h1) h2 h3]
 congr 1
 apply List.filter_congr
 intro k hk
 rw [up h k (List.mem_range.1 hk)]
theorem a9i : aw 0 = [] := by
 unfold aw
 rw [List.filter_eq_nil_iff]
 intro k _
 simp
theorem ahg {s : AS} (h : s ≠ 0) : (s &&& (s - 1)).toNat < s.toNat := by
 refine ad1 (c5.2 fun i hi hb => ?_) fun e => ?_
 · rw [up h i hi] at hb
   simp only [Bool.and_eq_true] at hb
   exact hb.2
 · have := up h (iu s) (w3 h).1
   rw [e, (w3 h).2.1] at this
   simp at this
end Go.Hx
end
