/- A part of the proof: V11 Cs14 V12 Cs15 V13 Cs16 V14. -/
import Derived.Test.YtidophngianjiaaGreatDoor7x21
set_option linter.all false
section
namespace Go.Hx
open Go.Proofs
set_option maxRecDepth 100000
theorem asi : goodFn Tryz.prog 203 := ⟨Tryz.f203, Tryz.func203, by kernel_rfl, by kernel_rfl⟩
theorem au4 (l : List Fd) (hl : l.length ≤ 4096) : d7 Tryz.prog 203 [.one (.p (fdl l))] [] (.v (.one (.ref 900 (spl l).length))) [(900, .arr true 2 40 (spl l).length (lf Fd.c (spl l)))] [] := by
 refine eu (nt := 37) af Tryz.func203 rfl rfl l9 rfl ?_; refine sx7 ?_; refine qy ?_; refine a6 ?_; refine sx7 ?_; refine qy ?_; refine a6 ?_; (iterate 2 refine a7 ?_)
 refine ce 0 rfl fun hn => ?_
 refine gy ?_; (iterate 3 refine qy ?_); refine a6 ?_; refine ae ?_
 refine dl 3 901 true 2 40 (lf Fd.c []) (by decide) rfl (CoP.sl rfl (.inr rfl) (fun h => h) (fun i j hi _ => absurd hi (Nat.not_lt_zero i))) (.inr rfl) rfl ?_
 refine ak (ι := Nat) ⟨[(8, some _), (9, some _)], []⟩ ⟨⟨c9, c9, trivial⟩, trivial⟩ (fun i => ⟨[(3, some (.v (.one (.ref 901 (gw (l.take i)).length)))), (10, some (vI i))], [(901, some (.arr true 2 40 (gw (l.take i)).length (lf Fd.c (gw (l.take i)))))]⟩) (fun i => i ≤ l.length) (fun i => l.length - i) (0) (Nat.zero_le _) ⟨⟨zy, zy, trivial⟩, ⟨u9, trivial⟩⟩ ?_
 rintro i hi
 refine sx7 ?_; refine qy ?_; refine a6 ?_; refine a7 ?_; refine a8 _ rfl (fun r0 => ?_) (fun r0 => ?_)
 ·
  have h0 := of_decide_eq_true r0
  try simp only [ty] at h0
  refine aa ?_; refine a7 ?_; refine ae ?_; refine sx7 ?_; (iterate 2 refine qy ?_); refine m9 0 ?_; refine s9 ?_; refine a6 ?_; refine sx7 ?_; (iterate 5 refine qy ?_)
  refine rc rfl rfl rfl rfl rfl rfl a5q (ani ((l.getD i default).rhs &&& ~~~(l.getD i default).lhs)) (⟨cci (a4l _ _), trivial⟩) rfl rfl ?_; (iterate 2 refine qy ?_); refine a6 ?_; refine ae ?_
  refine ak (ι := Nat) ⟨[(5, some _), (8, some _), (9, some _), (10, some _), (19, some _), (20, some _)], [(0, some _)]⟩ ⟨⟨c9, c9, c9, c9, c9, c9, trivial⟩, ⟨u9, trivial⟩⟩ (fun k => ⟨[(3, some (.v (.one (.ref 901 (jl l i k).length)))), (21, some (vI k))], [(901, some (.arr true 2 40 (jl l i k).length (lf Fd.c (jl l i k))))]⟩) (fun k => k ≤ (aw ((l.getD i default).rhs &&& ~~~(l.getD i default).lhs)).length) (fun k => (aw ((l.getD i default).rhs &&& ~~~(l.getD i default).lhs)).length - k) (0) (Nat.zero_le _) ⟨⟨⟨_, rfl, (kn (a15 l i))⟩, zy, trivial⟩, ⟨⟨_, rfl, (ig (a15 l i))⟩, trivial⟩⟩ ?_
  rintro k hk
  have hml := w9 ((l.getD i default).rhs &&& ~~~(l.getD i default).lhs)
  have hsl := aei (l := l) (i := i) (k := k) (by omega)
  refine sx7 ?_; refine qy ?_; refine a6 ?_; refine a7 ?_; refine a8 _ rfl (fun r1 => ?_) (fun r1 => ?_)
  ·
   have h1 := of_decide_eq_true r1
   try simp only [ty] at h1
   refine aa ?_; refine a7 ?_; refine ae ?_; refine sx7 ?_; (iterate 3 refine qy ?_); refine a6 ?_; refine ay (E := b6) af au [0, 1, 2, 3, 4, 5, 6, 7, 8] ?_; (iterate 4 refine qy ?_)
   refine rq rfl rfl rfl rfl rfl ?_ (hp := (Int.natCast_nonneg _)); refine qy ?_; refine m9 1 ?_; refine ra 2 true rfl rfl rfl rfl rfl rfl ?_; refine qy ?_; refine a6 ?_; refine ⟨by kernel_rfl, ?_⟩; refine gy ?_
   (iterate 2 refine qy ?_); refine a6 ?_; refine ⟨k + 1, ?_, ?_, ?_⟩
   · show k + 1 ≤ _; omega
   · first | omega | (dsimp only; omega)
   · exact ⟨⟨⟨_, rfl, (ee (a0p rfl (by omega)))⟩, zy, c9, c9, c9, c9, c9, c9, trivial⟩, ⟨⟨_, rfl, (qv (a0p rfl (by omega)) (CoP.refl _) (CoP.of_eq (by exact congrArg (fun z => PV.raw (.int .u32 z)) (ass _))))⟩, u9, trivial⟩⟩
  ·
   have h1 := of_decide_eq_false r1
   try simp only [ty] at h1
   obtain rfl : k = (aw ((l.getD i default).rhs &&& ~~~(l.getD i default).lhs)).length := by omega
   refine am ?_; refine gy ?_; (iterate 2 refine qy ?_); refine a6 ?_; refine ⟨i + 1, ?_, ?_, ?_⟩
   · show i + 1 ≤ _; omega
   · first | omega | (dsimp only; omega)
   · exact ⟨⟨⟨_, rfl, (kn (a3z (by omega) rfl).symm)⟩, zy, c9, c9, trivial⟩, ⟨⟨_, rfl, (ig (a3z (by omega) rfl).symm)⟩, trivial⟩⟩
 ·
  have h0 := of_decide_eq_false r0
  try simp only [ty] at h0
  obtain rfl : i = l.length := by omega
  refine am ?_; refine a7 ?_; refine bu 3 rfl rfl rfl ?_; refine gy ?_; refine qy ?_
  refine bv rfl rfl rfl rfl rfl rfl ad8 (ajr (gw l) (Nat.le_trans (vh l) (by omega))) (⟨CoP.of_eq (by rw [List.take_length]; rfl), trivial⟩) trivial rfl rfl ?_; refine qy ?_; refine a6 ?_
  refine ap ?_; refine ⟨.inr rfl, ?_⟩
  exact ⟨_, _, rfl, (by (repeat' apply And.intro) <;> first | trivial | exact Nat.le_of_ble_eq_true rfl), CoR.refl _, ⟨u9, trivial⟩⟩
theorem avs : goodFn Tryz.prog 165 := ⟨Tryz.f165, Tryz.func165, by kernel_rfl, by kernel_rfl⟩
theorem b1n (l : List Fd) (hl : l.length ≤ 4096) : aj Tryz.prog 165 [pP (fdl l)] (aq [pP (fdl (af5 l))]) := by
 refine ag (nt := 60) af Tryz.func165 rfl rfl l9 ?_; refine sx7 ?_; refine qy ?_; refine a6 ?_; refine sx7 ?_; refine qy ?_
 refine bv rfl rfl rfl rfl rfl rfl asi (au4 l hl) (dg.refl _) trivial rfl rfl ?_; refine qy ?_; refine a6 ?_; (iterate 2 refine a7 ?_)
 have hsl := adb l
 refine gy ?_; (iterate 3 refine qy ?_); refine a6 ?_; refine ae ?_
 refine ak (ι := Nat) ⟨[(3, some _), (11, some _)], []⟩ ⟨⟨c9, c9, trivial⟩, trivial⟩ (fun i => ⟨[(12, some (vI i))], [(900, some (.arr true 2 40 (spl l).length (lf Fd.c (i7 (spl l) i))))]⟩) (fun i => i ≤ (spl l).length) (fun i => (spl l).length - i) (0) (Nat.zero_le _) ⟨⟨zy, trivial⟩, ⟨u9, trivial⟩⟩ ?_
 rintro i hi
 have htl := ka (l := spl l) (i := i)
 refine sx7 ?_; refine qy ?_; refine a6 ?_; refine a7 ?_; refine a8 _ rfl (fun r0 => ?_) (fun r0 => ?_)
 ·
  have h0 := of_decide_eq_true r0
  try simp only [ty] at h0
  refine aa ?_; refine a7 ?_; refine ae ?_; refine sx7 ?_; (iterate 2 refine qy ?_); refine a6 ?_; refine sx7 ?_; (iterate 5 refine qy ?_)
  refine rc rfl rfl rfl rfl rfl rfl a5q (ani ((i7 (spl l) i).getD i default).lhs) (CoL.refl _) rfl rfl ?_; (iterate 2 refine qy ?_); refine a6 ?_; refine ae ?_
  refine ak (ι := Nat) ⟨[(3, some _), (4, some _), (11, some _), (12, some _), (20, some _), (21, some _)], []⟩ ⟨⟨c9, c9, c9, c9, c9, c9, trivial⟩, trivial⟩ (fun k => ⟨[(22, some (vI k))], [(900, some (.arr true 2 40 (spl l).length (lf Fd.c (l6 (i7 (spl l) i) i k))))]⟩) (fun k => k ≤ (aw ((i7 (spl l) i).getD i default).lhs).length) (fun k => (aw ((i7 (spl l) i).getD i default).lhs).length - k) (0) (Nat.zero_le _) ⟨⟨zy, trivial⟩, ⟨⟨_, rfl, (fc (ama _ _) rfl)⟩, trivial⟩⟩ ?_
  rintro k hk
  have hml := w9 ((i7 (spl l) i).getD i default).lhs
  refine sx7 ?_; refine qy ?_; refine a6 ?_; refine a7 ?_; refine a8 _ rfl (fun r1 => ?_) (fun r1 => ?_)
  ·
   have h1 := of_decide_eq_true r1
   try simp only [ty] at h1
   have hkl : (l6 (i7 (spl l) i) i k).length = (spl l).length := by rw [a7v, ka]
   have hhas := aml (l := (i7 (spl l) i)) (i := i) (k := k) (by rw [ka]; omega) (by omega)
   refine aa ?_; refine a7 ?_; refine ae ?_; refine sx7 ?_; (iterate 3 refine qy ?_); refine a6 ?_; refine sx7 ?_; (iterate 6 refine qy ?_)
   refine rc rfl rfl rfl rfl rfl rfl as8 (awk (l6 (i7 (spl l) i) i k) ((l6 (i7 (spl l) i) i k).getD i default) ((aw ((i7 (spl l) i).getD i default).lhs).getD k default)) (⟨CoC.one (ac8 (by rw [a7v, ka])), CoC.refl _, CoC.refl _, trivial⟩) rfl rfl ?_
   refine a6 ?_; refine a8 _ rfl (fun r2 => ?_) (fun r2 => ?_)
   ·
    have h2 := r2
    refine ay (E := b6) af au [0, 1, 2, 3, 4, 5, 6, 7, 8, 9, 10] ?_; (iterate 6 refine qy ?_); refine rq rfl rfl rfl rfl rfl ?_ (hp := (Int.natCast_nonneg _)); (iterate 3 refine qy ?_); refine s9 ?_
    refine a6 ?_; refine ⟨by kernel_rfl, ?_⟩; refine gy ?_; (iterate 2 refine qy ?_); refine a6 ?_
    first | (refine ⟨k + 1, ?_, ?_, ?_⟩
             · show k + 1 ≤ _; omega
             · first | omega | (dsimp only; omega)
             · exact ⟨⟨zy, c9, c9, c9, c9, c9, c9, trivial⟩, ⟨⟨_, rfl, (acd (i := i) (a := (aw ((i7 (spl l) i).getD i default).lhs).getD k default) (l := (l6 (i7 (spl l) i) i k)) (by rw [sg (by omega), ajm hhas (by assumption)]) (a4p _ _) (by omega) (by omega) hkl.symm)⟩, trivial⟩⟩)
          | (refine ⟨k + 1, ?_, ?_, ?_⟩
             · show k + 1 ≤ _; omega
             · first | omega | (dsimp only; omega)
             · exact ⟨⟨zy, c9, c9, c9, c9, c9, c9, trivial⟩, ⟨⟨_, rfl, (fc (by rw [sg (by omega), akv (by assumption)]) rfl)⟩, trivial⟩⟩)
   ·
    have h2 := r2
    refine aa ?_; refine gy ?_; (iterate 2 refine qy ?_); refine a6 ?_
    first | (refine ⟨k + 1, ?_, ?_, ?_⟩
             · show k + 1 ≤ _; omega
             · first | omega | (dsimp only; omega)
             · exact ⟨⟨zy, c9, c9, c9, c9, c9, c9, trivial⟩, ⟨⟨_, rfl, (acd (i := i) (a := (aw ((i7 (spl l) i).getD i default).lhs).getD k default) (l := (l6 (i7 (spl l) i) i k)) (by rw [sg (by omega), ajm hhas (by assumption)]) (a4p _ _) (by omega) (by omega) hkl.symm)⟩, trivial⟩⟩)
          | (refine ⟨k + 1, ?_, ?_, ?_⟩
             · show k + 1 ≤ _; omega
             · first | omega | (dsimp only; omega)
             · exact ⟨⟨zy, c9, c9, c9, c9, c9, c9, trivial⟩, ⟨⟨_, rfl, (fc (by rw [sg (by omega), akv (by assumption)]) rfl)⟩, trivial⟩⟩)
  ·
   have h1 := of_decide_eq_false r1
   try simp only [ty] at h1
   obtain rfl : k = (aw ((i7 (spl l) i).getD i default).lhs).length := by omega
   refine am ?_; refine gy ?_; (iterate 2 refine qy ?_); refine a6 ?_; refine ⟨i + 1, ?_, ?_, ?_⟩
   · show i + 1 ≤ _; omega
   · first | omega | (dsimp only; omega)
   · exact ⟨⟨zy, c9, c9, trivial⟩, ⟨⟨_, rfl, (fc (by rw [aja, amf rfl]) rfl)⟩, trivial⟩⟩
 ·
  have h0 := of_decide_eq_false r0
  try simp only [ty] at h0
  obtain rfl : i = (spl l).length := by omega
  refine am ?_; refine a7 ?_; refine bu 3 rfl rfl rfl ?_; refine gy ?_; refine qy ?_
  refine rc rfl rfl rfl rfl rfl rfl ad8 (azg (i7 (spl l) (spl l).length) (by rw [ka]; omega)) (⟨CoC.one (ac8 (by rw [ka])), trivial⟩) rfl rfl ?_; refine qy ?_; refine a6 ?_; (iterate 2 refine a7 ?_)
  have hrl := aeo l
  refine gy ?_; refine qy ?_; refine a6 ?_; refine ae ?_
  refine ak (ι := List Fd × Nat) ⟨[], []⟩ ⟨trivial, trivial⟩ (fun x => ⟨[(3, some (br (fdl x.1))), (7, some (vI x.2))], []⟩) (fun x => pk (x.1.length - x.2) x.1 x.2 = af5 l ∧ x.2 ≤ x.1.length ∧ x.1.length ≤ 131072) (fun x => x.1.length - x.2) ((xo l, 0)) (⟨rfl, Nat.zero_le _, by show (xo l).length ≤ _; omega⟩) ⟨⟨zy, ⟨_, rfl, (coi rfl)⟩, trivial⟩, trivial⟩ ?_
  rintro x ⟨hx, hx2, hx3⟩
  refine a7 ?_; refine sx7 ?_; (iterate 4 refine qy ?_); refine a6 ?_; refine a8 _ rfl (fun r3 => ?_) (fun r3 => ?_)
  ·
   have h3 := of_decide_eq_true r3
   try simp only [ty] at h3
   refine aa ?_; refine ae ?_; refine sx7 ?_; (iterate 2 refine qy ?_); refine rc rfl rfl rfl rfl rfl rfl aw1 (axz x.1 x.2 (by omega) (by omega)) (CoL.refl _) rfl rfl ?_; refine a6 ?_
   refine a8 _ rfl (fun r4 => ?_) (fun r4 => ?_)
   ·
    have h4 := r4
    have hq := r4
    refine gy ?_; (iterate 2 refine qy ?_); refine rc rfl rfl rfl rfl rfl rfl ad5 (aci x.1 x.2 (by omega) (by omega)) (CoL.refl _) rfl rfl ?_; refine qy ?_; refine a6 ?_
    first | (refine ⟨(iz x.1 x.2, x.2), ?_, ?_, ?_⟩
             · have ho := jr (l := x.1) (i := x.2) (by omega)
               exact ⟨by rw [← hx, acs (by omega) hq], by dsimp only; omega, by dsimp only; omega⟩
             · have ho := jr (l := x.1) (i := x.2) (by omega)
               dsimp only; omega
             · exact ⟨⟨zy, ⟨_, rfl, (coi (by first | rfl | (dsimp only; omega)))⟩, trivial⟩, trivial⟩)
          | (refine ⟨(x.1, x.2 + 1), ?_, ?_, ?_⟩
             · exact ⟨by rw [← hx, adc (by omega) hq], by dsimp only; omega, by dsimp only; omega⟩
             · first | omega | (dsimp only; omega)
             · exact ⟨⟨zy, ⟨_, rfl, (coi (by first | rfl | (dsimp only; omega)))⟩, trivial⟩, trivial⟩)
   ·
    have h4 := r4
    have hq := r4
    refine gy ?_; (iterate 3 refine qy ?_); refine a6 ?_
    first | (refine ⟨(iz x.1 x.2, x.2), ?_, ?_, ?_⟩
             · have ho := jr (l := x.1) (i := x.2) (by omega)
               exact ⟨by rw [← hx, acs (by omega) hq], by dsimp only; omega, by dsimp only; omega⟩
             · have ho := jr (l := x.1) (i := x.2) (by omega)
               dsimp only; omega
             · exact ⟨⟨zy, ⟨_, rfl, (coi (by first | rfl | (dsimp only; omega)))⟩, trivial⟩, trivial⟩)
          | (refine ⟨(x.1, x.2 + 1), ?_, ?_, ?_⟩
             · exact ⟨by rw [← hx, adc (by omega) hq], by dsimp only; omega, by dsimp only; omega⟩
             · first | omega | (dsimp only; omega)
             · exact ⟨⟨zy, ⟨_, rfl, (coi (by first | rfl | (dsimp only; omega)))⟩, trivial⟩, trivial⟩)
  ·
   have h3 := of_decide_eq_false r3
   try simp only [ty] at h3
   have hq := h3
   refine am ?_; refine sx7 ?_; (iterate 2 refine qy ?_); refine a6 ?_
   exact hx8 rfl rfl rfl (⟨CoC.one (CoP.of_eq (by rw [← hx, ahu (by omega)])), trivial⟩)
end Go.Hx
end
section
namespace Go.Hx
def kf (n : Int) (l : List Fd) : List Fd := if ca n l = 0 then af5 l else []
theorem ayt {n : Int} {l : List Fd} (h : ca n l = 0) : kf n l = af5 l := if_pos h
theorem ay4 {n : Int} {l : List Fd} (h : ¬ ca n l = 0) : kf n l = [] := if_neg h
theorem b1l {s : Nat} {cl : Bool} {f : Nat → Nat → PV} {L : List Fd} (h : L = []) : CoP (.sl 0 s cl f) (fdl L) := by subst h; exact ak3
theorem a59 {s : Nat} {cl : Bool} {f : Nat → Nat → PV} {L : List AS} (h : L = []) : CoP (.sl 0 s cl f) (asl L) := by subst h; exact ak3
def b2t (l : List Fd) (i k : Nat) : List Fd := (List.range k).foldl (nf i) l
end Go.Hx
end
section
namespace Go.Hx
open Go.Proofs
set_option maxRecDepth 100000
theorem asu : goodFn Tryz.prog 115 := ⟨Tryz.f115, Tryz.func115, by kernel_rfl, by kernel_rfl⟩
theorem b0i (n : Int) (l : List Fd) : aj Tryz.prog 115 [pI n, pP (fdl l)] (aq [pP (fdl (kf n l)), pI (ca n l)]) := by
 refine ag (nt := 15) af Tryz.func115 rfl rfl l9 ?_; refine sx7 ?_; (iterate 2 refine qy ?_); refine a6 ?_; refine a7 ?_; refine sx7 ?_; (iterate 2 refine qy ?_)
 refine rc rfl rfl rfl rfl rfl rfl yh (xf n l) (CoL.refl _) rfl rfl ?_; refine qy ?_; refine a6 ?_; refine sx7 ?_; (iterate 2 refine qy ?_); refine a6 ?_; refine a8 _ rfl (fun r0 => ?_) (fun r0 => ?_)
 ·
  have h0 := r0
  have h0 := of_decide_eq_false (az h0)
  try simp only [ty] at h0
  refine sx7 ?_; (iterate 3 refine qy ?_); refine a6 ?_
  exact hx8 rfl rfl rfl (⟨CoC.one (b1l (ay4 (by assumption))), CoC.refl _, trivial⟩)
 ·
  have h0 := r0
  have h0 := of_decide_eq_true (b4 h0)
  try simp only [ty] at h0
  refine aa ?_; refine sx7 ?_; refine qy ?_; refine rc rfl rfl rfl rfl rfl rfl avs (b1n l (by have := (it (by assumption)).2.2.1; omega)) (CoL.refl _) rfl rfl ?_; (iterate 2 refine qy ?_); refine a6 ?_
  exact hx8 rfl rfl rfl (⟨CoC.one (CoP.of_eq (by rw [ayt (by assumption)])), cci (by omega), trivial⟩)
end Go.Hx
end
section
namespace Go.Hx
theorem vn (a b : Nat) : a &&& b = 2 * (a / 2 &&& b / 2) + (a % 2 &&& b % 2) := by
 have h1 := Nat.div_add_mod (a &&& b) 2
 have h2 : (a &&& b) % 2 = a % 2 &&& b % 2 := by
  have := Nat.and_mod_two_pow (a := a) (b := b) (n := 1)
  simpa using this
 rw [Nat.and_div_two, h2] at h1
 exact h1.symm
theorem a5c (a b : Nat) : (a % 2 &&& b % 2) = if a % 2 = 1 ∧ b % 2 = 1 then 1 else 0 := by
 rcases Nat.mod_two_eq_zero_or_one a with h | h <;> rcases Nat.mod_two_eq_zero_or_one b with k | k <;> rw [h, k] <;> rfl
theorem xn {x s : Nat} (h : x &&& s = x) : (x / 2 &&& s / 2 = x / 2) ∧ (x % 2 = 1 → s % 2 = 1) := by
 have h1 := vn x s
 rw [h, a5c] at h1
 split at h1 <;> rename_i hc
 · exact ⟨by omega, fun _ => hc.2⟩
 · exact ⟨by omega, fun hx => by omega⟩
theorem aa2 : ∀ (x s z : Nat), x &&& s = x → z &&& s = z → z < x → z ≤ ((x - 1) &&& s) := by
 intro x
 induction x using Nat.strongRecOn with
 | _ x ih =>
  intro s z hx hz hlt
  obtain ⟨x1, x2⟩ := xn hx
  obtain ⟨z1, z2⟩ := xn hz
  rw [vn (x - 1) s, a5c]
  rcases Nat.mod_two_eq_zero_or_one x with hb | hb
  · have e1 : (x - 1) / 2 = x / 2 - 1 := by omega
    have e2 : (x - 1) % 2 = 1 := by omega
    have := ih (x / 2) (by omega) (s / 2) (z / 2) x1 z1 (by omega)
    rw [e1, e2]
    by_cases hs : s % 2 = 1
    · rw [if_pos ⟨rfl, hs⟩]; omega
    · rw [if_neg (fun h => hs h.2)]
      have : z % 2 = 0 := by omega
      omega
  · have e1 : (x - 1) / 2 = x / 2 := by omega
    have e2 : (x - 1) % 2 = 0 := by omega
    rw [e1, e2, x1, if_neg (by omega)]
    omega
theorem ada : ∀ (w y s : Nat), y &&& s = y → s < 2 ^ w → ((2 ^ w - 1 - y) &&& s) = s - y := by
 intro w
 induction w with
 | zero => intro y s h hs; obtain rfl : s = 0 := (by simpa using hs); simp
 | succ w ih =>
  intro y s h hs
  obtain ⟨y1, y2⟩ := xn h
  have hle : y ≤ s := by rw [← h]; exact Nat.and_le_right
  rw [Nat.pow_succ] at hs ⊢
  have hp := Nat.two_pow_pos w
  have := ih (y / 2) (s / 2) y1 (by omega)
  have hle2 : y / 2 ≤ s / 2 := by omega
  rw [vn, a5c, show (2 ^ w * 2 - 1 - y) / 2 = 2 ^ w - 1 - y / 2 by omega, this]
  split <;> omega
theorem agt {y s : Nat} (h : y &&& s = y) : (s - y) &&& s = s - y := by
 rw [← ada s y s h Nat.lt_two_pow_self, Nat.and_assoc, Nat.and_self]
theorem as4 {w x s : Nat} (hx : x &&& s = x) (hs : s < 2 ^ w) (hne : x < s) : ((2 ^ w + x - s) &&& s) = s - ((s - x - 1) &&& s) := by
 have h1 : ((s - x - 1) &&& s) &&& s = (s - x - 1) &&& s := by rw [Nat.and_assoc, Nat.and_self]
 rw [← ada w _ s h1 hs]
 have hp := Nat.two_pow_pos w
 apply Nat.eq_of_testBit_eq
 intro i
 have hlt : s - x - 1 < 2 ^ w := by omega
 have hlt2 : ((s - x - 1) &&& s) < 2 ^ w := Nat.lt_of_le_of_lt Nat.and_le_left hlt
 rw [Nat.testBit_and, Nat.testBit_and, show 2 ^ w + x - s = 2 ^ w - (s - x - 1 + 1) by omega, Nat.testBit_two_pow_sub_succ hlt, show 2 ^ w - 1 - ((s - x - 1) &&& s) = 2 ^ w - (((s - x - 1) &&& s) + 1) by omega, Nat.testBit_two_pow_sub_succ hlt2, Nat.testBit_and]
 cases s.testBit i <;> simp
theorem a8l {w x s z : Nat} (hx : x &&& s = x) (hs : s < 2 ^ w) (hz : z &&& s = z) (hlt : x < z) : ((2 ^ w + x - s) &&& s) ≤ z ∧ x < ((2 ^ w + x - s) &&& s) := by
 have hzs : z ≤ s := by rw [← hz]; exact Nat.and_le_right
 rw [as4 hx hs (by omega)]
 have h1 := aa2 (s - x) s (s - z) (agt hx) (agt hz) (by omega)
 have h2 : ((s - x - 1) &&& s) ≤ s - x - 1 := Nat.and_le_left
 omega
theorem xr {z s : AS} : sub z s ↔ z.toNat &&& s.toNat = z.toNat := by
 rw [← BitVec.toNat_and, BitVec.toNat_inj, cb]
 constructor
 · intro h
   apply BitVec.eq_of_getLsbD_eq
   intro k hk
   rw [BitVec.getLsbD_and]
   cases hz : z.getLsbD k with
   | false => rfl
   | true => rw [h k hk hz]; rfl
 · intro h i _ hi
   rw [← h, BitVec.getLsbD_and] at hi
   simp at hi
   exact hi.2
theorem ace {z s : AS} (h : sub z s) : bsz z ≤ bsz s := by
 unfold bsz
 apply List.countP_mono_left
 intro i hi hb
 exact cb.1 h i (List.mem_range.1 hi) hb
def wu (s : AS) : Nat → AS → List AS
 | 0, _ => []
 | n + 1, x => x :: if x = 0 then [] else wu s n ((x - 1) &&& s)
theorem a9t {x : AS} (h : x ≠ 0) : (x - 1).toNat = x.toNat - 1 := by
 have h0 : x.toNat ≠ 0 := fun e => h (BitVec.eq_of_toNat_eq e)
 have := x.isLt
 rw [BitVec.toNat_sub]
 show (2 ^ 32 - 1 + x.toNat) % 2 ^ 32 = _
 omega
theorem a1z {x s : AS} : sub ((x - 1) &&& s) s := by
 rw [xr, BitVec.toNat_and, Nat.and_assoc, Nat.and_self]
theorem qo {x s : AS} (h : x ≠ 0) : ((x - 1) &&& s).toNat < x.toNat := by
 have h0 : x.toNat ≠ 0 := fun e => h (BitVec.eq_of_toNat_eq e)
 rw [BitVec.toNat_and, a9t h]
 have : ((x.toNat - 1) &&& s.toNat) ≤ x.toNat - 1 := Nat.and_le_left
 omega
theorem a98 {x s z : AS} (hx : sub x s) (hz : sub z s) (h : z.toNat < x.toNat) : z.toNat ≤ ((x - 1) &&& s).toNat := by
 have h0 : x ≠ 0 := fun e => by subst e; exact absurd h (Nat.not_lt_zero _)
 rw [BitVec.toNat_and, a9t h0]
 exact aa2 _ _ _ (xr.1 hx) (xr.1 hz) h
theorem a84 {s : AS} : ∀ (n : Nat) (x : AS), sub x s → x.toNat < n → ∀ z, z ∈ wu s n x ↔ sub z s ∧ z.toNat ≤ x.toNat
 | 0, x, _, h, z => absurd h (Nat.not_lt_zero _)
 | n + 1, x, hx, h, z => by
  unfold wu
  by_cases h0 : x = 0
  · rw [if_pos h0, List.mem_singleton]
    subst h0
    constructor
    · rintro rfl; exact ⟨hx, Nat.le_refl _⟩
    · rintro ⟨_, h⟩
      exact BitVec.eq_of_toNat_eq (Nat.le_antisymm h (Nat.zero_le _))
  · rw [if_neg h0, List.mem_cons, a84 n _ a1z (by have := qo (s := s) h0; omega)]
    constructor
    · rintro (rfl | ⟨h1, h2⟩)
      · exact ⟨hx, Nat.le_refl _⟩
      · have := qo (s := s) h0
        exact ⟨h1, by omega⟩
    · rintro ⟨h1, h2⟩
      by_cases he : z = x
      · exact .inl he
      · have hne : z.toNat ≠ x.toNat := fun e => he (BitVec.eq_of_toNat_eq e)
        exact .inr ⟨h1, a98 hx h1 (by omega)⟩
def sj (s : AS) : List AS := ord (wu s (s.toNat + 1) s)
theorem sub_self (s : AS) : sub s s := by rw [xr, Nat.and_self]
theorem a7p {z s : AS} (h : sub z s) : z.toNat ≤ s.toNat := by rw [← xr.1 h]; exact Nat.and_le_right
theorem a6o {s z : AS} : z ∈ sj s ↔ sub z s := by
 unfold sj
 rw [a5l, a84 _ _ (sub_self s) (Nat.lt_succ_self _)]
 exact ⟨fun h => h.1, fun h => ⟨h, a7p h⟩⟩
theorem ab8 {l : List AS} {s : AS} (ho : pb l) (h : ∀ z, z ∈ l ↔ sub z s) : l = sj s := tv ho (vi _) fun z => by rw [h z]; exact a6o.symm
def cu (s : AS) : List AS := if 12 < bsz s then [] else sj s
theorem uj {s : AS} (h : (12 : Int) < bsz s) : cu s = [] := if_pos (by omega)
theorem a5j {s : AS} (h : ¬ (12 : Int) < bsz s) : cu s = sj s := if_neg (by omega)
def zb (s : AS) (y : List AS × AS) : Prop := sub y.2 s ∧ y.1.length + y.2.toNat ≤ s.toNat + 1 ∧ ∀ z, z ∈ y.1 ↔ sub z s ∧ y.2.toNat ≤ z.toNat
theorem a6x (s : AS) : zb s ([s], s) := ⟨sub_self s, by simp only [List.length_singleton]; omega, fun z => by
 rw [List.mem_singleton]
 constructor
 · rintro rfl; exact ⟨sub_self _, Nat.le_refl _⟩
 · rintro ⟨h1, h2⟩; exact BitVec.eq_of_toNat_eq (Nat.le_antisymm (a7p h1) h2)⟩
theorem a6y {s : AS} {y : List AS × AS} (h : zb s y) (h0 : y.2 ≠ 0) : zb s (y.1 ++ [(y.2 - 1) &&& s], (y.2 - 1) &&& s) := by
 obtain ⟨h1, h2, h3⟩ := h
 have hl := qo (s := s) h0
 refine ⟨a1z, by simp only [List.length_append, List.length_singleton]; omega, fun z => ?_⟩
 rw [List.mem_append, List.mem_singleton, h3]
 constructor
 · rintro (⟨k1, k2⟩ | rfl)
   · exact ⟨k1, by dsimp only; omega⟩
   · exact ⟨a1z, Nat.le_refl _⟩
 · rintro ⟨k1, k2⟩
   dsimp only at k2
   by_cases hz : y.2.toNat ≤ z.toNat
   · exact .inl ⟨k1, hz⟩
   · have := a98 h1 k1 (by omega)
     exact .inr (BitVec.eq_of_toNat_eq (by omega))
theorem ab0 {s : AS} {y : List AS × AS} (h : zb s y) (h0 : y.2 = 0) : ord y.1 = sj s := ab8 (vi _) fun z => by
 rw [a5l, h.2.2, h0]
 exact ⟨fun h => h.1, fun h => ⟨h, Nat.zero_le _⟩⟩
def nxt (x s : Nat) : Nat := if x = s then s + 1 else ((2 ^ 64 + x - s) &&& s)
def UpI (s : AS) (k : Nat) (y : List AS × Nat) : Prop :=
 (y.2 = s.toNat + 1 ∨ y.2 &&& s.toNat = y.2) ∧ y.1.length ≤ k * 4294967296 + y.2 ∧ pb y.1 ∧ ∀ z, z ∈ y.1 ↔ sub z s ∧ (bsz z < k ∨ bsz z = k ∧ z.toNat < y.2)
theorem nr {x s : Nat} (hs : s < 2 ^ 32) (hx : x &&& s = x) : x < nxt x s ∧ (nxt x s = s + 1 ∨ nxt x s &&& s = nxt x s) ∧ ∀ z, z &&& s = z → x < z → nxt x s ≤ z := by
 have hle : x ≤ s := by rw [← hx]; exact Nat.and_le_right
 have hs' : s < 2 ^ 64 := Nat.lt_trans hs (by decide)
 unfold nxt
 by_cases he : x = s
 · rw [if_pos he]
   refine ⟨by omega, .inl rfl, fun z hz hlt => ?_⟩
   have : z ≤ s := by rw [← hz]; exact Nat.and_le_right
   omega
 · rw [if_neg he]
   refine ⟨(a8l hx hs' (Nat.and_self s) (by omega)).2, .inr (by rw [Nat.and_assoc, Nat.and_self]), fun z hz hlt => (a8l hx hs' hz hlt).1⟩
theorem ws {s : AS} {k : Nat} {y : List AS × Nat} (h : UpI s k y) (hy : y.2 ≤ s.toNat) : y.2 &&& s.toNat = y.2 := by
 rcases h.1 with h | h
 · omega
 · exact h
theorem arw {s : AS} {k : Nat} {y : List AS × Nat} (h : UpI s k y) : y.2 ≤ s.toNat + 1 := by
 rcases h.1 with h | h
 · omega
 · have : y.2 ≤ s.toNat := by rw [← h]; exact Nat.and_le_right
   omega
theorem aiy {s : AS} {k : Nat} {y : List AS × Nat} (h : UpI s k y) (hy : y.2 ≤ s.toNat) : (BitVec.ofNat 32 y.2).toNat = y.2 := by
 have := s.isLt
 rw [BitVec.toNat_ofNat, Nat.mod_eq_of_lt (by omega)]
theorem awt {s : AS} {k : Nat} {y : List AS × Nat} (h : UpI s k y) (hy : y.2 ≤ s.toNat) (hk : bsz (BitVec.ofNat 32 y.2) = k) : UpI s k (y.1 ++ [BitVec.ofNat 32 y.2], nxt y.2 s.toNat) := by
 have hn := aiy h hy
 obtain ⟨s1, s2, s3⟩ := nr s.isLt (ws h hy)
 have hsub : sub (BitVec.ofNat 32 y.2) s := xr.2 (by rw [hn]; exact ws h hy)
 obtain ⟨h1, h2, h3, h4⟩ := h
 refine ⟨s2, by simp only [List.length_append, List.length_singleton]; omega, ?_, fun z => ?_⟩
 · refine List.pairwise_append.2 ⟨h3, List.pairwise_singleton _ _, fun a ha b hb => ?_⟩
   rw [List.mem_singleton] at hb
   subst hb
   rw [l5]
   have := ((h4 a).1 ha).2
   omega
 · rw [List.mem_append, List.mem_singleton, h4]
   dsimp only
   constructor
   · rintro (⟨k1, k2⟩ | rfl)
     · exact ⟨k1, by omega⟩
     · exact ⟨hsub, .inr ⟨hk, by omega⟩⟩
   · rintro ⟨k1, k2 | ⟨k2, k3⟩⟩
     · exact .inl ⟨k1, .inl k2⟩
     · by_cases hz : z.toNat < y.2
       · exact .inl ⟨k1, .inr ⟨k2, hz⟩⟩
       · by_cases hz2 : y.2 < z.toNat
         · have := s3 z.toNat (xr.1 k1) hz2
           omega
         · exact .inr (BitVec.eq_of_toNat_eq (by omega))
theorem awg {s : AS} {k : Nat} {y : List AS × Nat} (h : UpI s k y) (hy : y.2 ≤ s.toNat) (hk : bsz (BitVec.ofNat 32 y.2) ≠ k) : UpI s k (y.1, nxt y.2 s.toNat) := by
 have hn := aiy h hy
 obtain ⟨s1, s2, s3⟩ := nr s.isLt (ws h hy)
 obtain ⟨h1, h2, h3, h4⟩ := h
 refine ⟨s2, by dsimp only; omega, h3, fun z => ?_⟩
 rw [h4]
 dsimp only
 constructor
 · rintro ⟨k1, k2⟩
   exact ⟨k1, by omega⟩
 · rintro ⟨k1, k2 | ⟨k2, k3⟩⟩
   · exact ⟨k1, .inl k2⟩
   · by_cases hz : z.toNat < y.2
     · exact ⟨k1, .inr ⟨k2, hz⟩⟩
     · by_cases hz2 : y.2 < z.toNat
       · have := s3 z.toNat (xr.1 k1) hz2
         omega
       · have e : z = BitVec.ofNat 32 y.2 := BitVec.eq_of_toNat_eq (by omega)
         exact absurd (e ▸ k2) hk
def UpK (s : AS) (k : Nat) (l : List AS) : Prop := l.length ≤ k * 4294967296 ∧ pb l ∧ ∀ z, z ∈ l ↔ sub z s ∧ bsz z < k
theorem aos (s : AS) : UpK s 0 [] := by
 refine ⟨?_, List.Pairwise.nil, fun z => ?_⟩
 · show 0 ≤ _
   exact Nat.zero_le _
 · constructor
   · intro h; cases h
   · rintro ⟨_, h⟩; omega
theorem ayn {s : AS} {k : Nat} {l : List AS} (h : UpK s k l) : UpI s k (l, 0) := by
 obtain ⟨h1, h2, h3⟩ := h
 unfold UpI
 dsimp only
 refine ⟨.inr (Nat.zero_and _), Nat.le_trans h1 (Nat.le_add_right _ _), h2, fun z => ?_⟩
 rw [h3]
 constructor
 · rintro ⟨a, b⟩
   exact ⟨a, .inl b⟩
 · rintro ⟨a, b | ⟨_, b⟩⟩
   · exact ⟨a, b⟩
   · exact absurd b (Nat.not_lt_zero _)
theorem auu {s : AS} {k : Nat} {y : List AS × Nat} (h : UpI s k y) (hy : ¬ y.2 ≤ s.toNat) : UpK s (k + 1) y.1 := by
 have h0 := arw h
 have := s.isLt
 obtain ⟨h1, h2, h3, h4⟩ := h
 refine ⟨by rw [Nat.add_mul]; omega, h3, fun z => ?_⟩
 rw [h4]
 constructor
 · rintro ⟨k1, k2⟩
   exact ⟨k1, by omega⟩
 · rintro ⟨k1, k2⟩
   have := a7p k1
   exact ⟨k1, by omega⟩
theorem avf {s : AS} {k : Nat} {l : List AS} (h : UpK s k l) (hk : bsz s < k) : l = sj s := ab8 h.2.1 fun z => by
 rw [h.2.2]
 exact ⟨fun h => h.1, fun h => ⟨h, by have := ace h; omega⟩⟩
abbrev pU (n : Nat) : PC := .one (.raw (.int .u64 (n : Int)))
abbrev vU (n : Nat) : HR := br (.raw (.int .u64 (n : Int)))
theorem a8n (n : Int) : IntKind.wrap .u64 n = n % 18446744073709551616 := by
 simp [IntKind.wrap, IntKind.signed, IntKind.bits]
theorem ayi {x s : Nat} (hs : s < 4294967296) (hx : x ≤ s) (h : ¬ (x : Int) = s) {a : Int} (ha : a = IntKind.wrap .u64 ((x : Int) - s) ∨ a = (x : Int) - s) : d9 .and .u64 a s = (nxt x s : Nat) := by
 unfold nxt
 rw [if_neg (by omega)]
 show IntKind.wrap .u64 ((BitVec.ofInt 64 a &&& BitVec.ofInt 64 s).toNat : Int) = _
 have e1 : (BitVec.ofInt 64 a).toNat = 2 ^ 64 + x - s := by
  rw [BitVec.toNat_ofInt]
  rcases ha with rfl | rfl
  · rw [a8n]
    omega
  · omega
 have e2 : (BitVec.ofInt 64 (s : Int)).toNat = s := by
  rw [BitVec.toNat_ofInt]
  omega
 have h2 : ((2 ^ 64 + x - s) &&& s) ≤ s := Nat.and_le_right
 rw [BitVec.toNat_and, e1, e2, a8n]
 omega
theorem axb {x s : Nat} (hs : s < 4294967296) (h : (x : Int) = s) : (s : Int) + 1 = (nxt x s : Nat) := by
 unfold nxt
 rw [if_pos (by omega)]
 omega
theorem wn {x s : AS} (h : x ≠ 0) : d9 .and .u32 (asI x - 1) (asI s) = asI ((x - 1) &&& s) := by rw [a9m h, o5]
theorem a2a {α : Type} [Inhabited α] {wr wr' : Bool} {e : TypeId} {c : α → Nat → PV} {x : α} {f : Nat → Nat → PV} (h : CoP (f 0 0) (c x 0)) (hw : wr' = true → wr = true := by exact fun h => h) : CoO (.arr wr 1 e 1 f) (.arr wr' 1 e [x].length (lf c [x])) :=
 ⟨hw, rfl, rfl, rfl, fun i j hi hj => by
  have hi : i < 1 := hi
  have hj : j < 1 := hj
  obtain rfl : j = 0 := by omega
  obtain rfl : i = 0 := by omega
  exact h⟩
theorem ug {n : Nat} (h : n < 4294967296) : (n : Int) = asI (BitVec.ofNat 32 n) := by
 unfold asI
 rw [BitVec.toNat_ofNat]
 omega
end Go.Hx
end
section
namespace Go.Hx
open Go.Proofs
set_option maxRecDepth 100000
theorem ac5 : goodFn Tryz.prog 154 := ⟨Tryz.f154, Tryz.func154, by kernel_rfl, by kernel_rfl⟩
theorem are (x s : Nat) (hs : s < 4294967296) (hx : x ≤ s) : aj Tryz.prog 154 [pU x, pU s] (aq [pU (nxt x s)]) := by
 refine ag (nt := 15) af Tryz.func154 rfl rfl l9 ?_; refine sx7 ?_; refine qy ?_; refine a6 ?_; refine a7 ?_; refine sx7 ?_; (iterate 3 refine qy ?_); refine a6 ?_
 refine a8 _ rfl (fun r0 => ?_) (fun r0 => ?_)
 ·
  have h0 := of_decide_eq_true r0
  try simp only [ty] at h0
  refine sx7 ?_; (iterate 3 refine qy ?_); refine a6 ?_
  exact hx8 rfl rfl rfl (⟨cci (axb hs h0), trivial⟩)
 ·
  have h0 := of_decide_eq_false r0
  try simp only [ty] at h0
  refine aa ?_; refine sx7 ?_; (iterate 2 refine qy ?_); refine rqw rfl rfl rfl rfl rfl ?_; (iterate 3 refine qy ?_); refine a6 ?_
  exact hx8 rfl rfl rfl (⟨cci (ayi hs hx h0 (by first | exact .inl rfl | exact .inr rfl)), trivial⟩)
theorem al7 : goodFn Tryz.prog 53 := ⟨Tryz.f53, Tryz.func53, by kernel_rfl, by kernel_rfl⟩
theorem azr (s : AS) : aj Tryz.prog 53 [pA s] (aq [pP (asl (cu s))]) := by
 refine ag (nt := 23) af Tryz.func53 rfl rfl l9 ?_; refine sx7 ?_; refine qy ?_; refine a6 ?_; refine a7 ?_; refine sx7 ?_; refine qy ?_; refine rc rfl rfl rfl rfl rfl rfl ur (a3w s) (CoL.refl _) rfl rfl ?_
 refine qy ?_; refine a6 ?_; refine a8 _ rfl (fun r0 => ?_) (fun r0 => ?_)
 ·
  have h0 := of_decide_eq_true r0
  try simp only [ty] at h0
  refine sx7 ?_; refine qy ?_; refine a6 ?_
  exact hx8 rfl rfl rfl (⟨CoC.one (a59 (uj h0)), trivial⟩)
 ·
  have h0 := of_decide_eq_false r0
  try simp only [ty] at h0
  refine aa ?_; refine sx7 ?_; refine qy ?_; refine m9 0 ?_; refine qy ?_; refine a6 ?_; refine a7 ?_; refine sx7 ?_; (iterate 2 refine qy ?_); refine a6 ?_; refine ae ?_
  refine ak (ι := List AS × AS) ⟨[(0, some _)], []⟩ ⟨⟨c9, trivial⟩, trivial⟩ (fun y => ⟨[(3, some (.v (.one (.ref 0 y.1.length)))), (4, some (vA y.2))], [(0, some (.arr true 1 38 y.1.length (lf sC y.1)))]⟩) (fun y => zb s y) (fun y => y.2.toNat) (([s], s)) (a6x s) ⟨⟨zy, zy, trivial⟩, ⟨⟨_, rfl, (a2a (CoP.refl _))⟩, trivial⟩⟩ ?_
  rintro y hy
  have hlen := hy.2.1
  have hsl := s.isLt
  refine a7 ?_; refine sx7 ?_; (iterate 2 refine qy ?_); refine a6 ?_; refine a8 _ rfl (fun r1 => ?_) (fun r1 => ?_)
  ·
   have h1 := r1
   have h1 := of_decide_eq_false (az h1)
   try simp only [ty] at h1
   have hne : y.2 ≠ 0 := fun e => h1 (by rw [e]; rfl)
   refine aa ?_; refine ae ?_; refine sx7 ?_; refine qy ?_; refine rq rfl rfl rfl rfl rfl ?_ (hp := (a1i hne)); (iterate 3 refine qy ?_); refine a6 ?_; refine gy ?_; (iterate 2 refine qy ?_); refine m9 1 ?_
   refine ra 2 true rfl rfl rfl rfl rfl rfl ?_; refine qy ?_; refine a6 ?_; refine ⟨(y.1 ++ [(y.2 - 1) &&& s], (y.2 - 1) &&& s), ?_, ?_, ?_⟩
   · exact a6y hy hne
   · exact qo hne
   · exact ⟨⟨⟨_, rfl, (ee rfl)⟩, ⟨_, rfl, (n7 (wn hne))⟩, c9, trivial⟩, ⟨⟨_, rfl, (ey rfl (CoP.of_eq (by rw [wn hne]; rfl)))⟩, trivial⟩⟩
  ·
   have h1 := r1
   have h1 := of_decide_eq_true (b4 h1)
   try simp only [ty] at h1
   have hz : y.2 = 0 := d6.1 h1
   refine am ?_; refine a7 ?_; refine bu 3 rfl rfl rfl ?_; refine gy ?_; refine qy ?_; refine rc rfl rfl rfl rfl rfl rfl aax (am6 y.1 (by omega)) (CoL.refl _) rfl rfl ?_; refine qy ?_; refine a6 ?_
   exact hx8 rfl rfl rfl (⟨CoC.one (CoP.of_eq (by rw [a5j h0, ab0 hy hz])), trivial⟩)
theorem asc : goodFn Tryz.prog 101 := ⟨Tryz.f101, Tryz.func101, by kernel_rfl, by kernel_rfl⟩
theorem ax5 (s : AS) : aj Tryz.prog 101 [pA s] (aq [pP (asl (cu s))]) := by
 refine ag (nt := 34) af Tryz.func101 rfl rfl l9 ?_; refine sx7 ?_; refine qy ?_; refine a6 ?_; refine a7 ?_; refine sx7 ?_; refine qy ?_
 refine rc rfl rfl rfl rfl rfl rfl a5e (a8p _) (⟨cci (by first | rfl | exact ug (by omega)), trivial⟩) rfl rfl ?_; refine qy ?_; refine a6 ?_; refine a8 _ rfl (fun r0 => ?_) (fun r0 => ?_)
 ·
  have h0 := of_decide_eq_true r0
  try simp only [ty] at h0
  refine sx7 ?_; refine qy ?_; refine a6 ?_
  exact hx8 rfl rfl rfl (⟨CoC.one (a59 (uj h0)), trivial⟩)
 ·
  have h0 := of_decide_eq_false r0
  try simp only [ty] at h0
  refine aa ?_; refine sx7 ?_; refine qy ?_; refine a6 ?_; refine a7 ?_; refine sx7 ?_; refine qy ?_; refine a6 ?_; refine ae ?_
  refine dl 3 900 true 1 38 (lf sC []) (by decide) rfl (CoP.sl rfl (.inr rfl) (fun h => h) (fun i j hi _ => absurd hi (Nat.not_lt_zero i))) (.inr rfl) rfl ?_
  refine ak (ι := List AS × Nat) ⟨[(0, some _)], []⟩ ⟨⟨c9, trivial⟩, trivial⟩ (fun x => ⟨[(3, some (.v (.one (.ref 900 x.1.length)))), (4, some (vI x.2))], [(900, some (.arr true 1 38 x.1.length (lf sC x.1)))]⟩) (fun x => UpK s x.2 x.1 ∧ x.2 ≤ bsz s + 1) (fun x => bsz s + 1 - x.2) (([], 0)) (⟨aos s, Nat.zero_le _⟩) ⟨⟨zy, zy, trivial⟩, ⟨u9, trivial⟩⟩ ?_
  rintro x ⟨hx, hxb⟩
  have hlen := hx.1
  have hsl := s.isLt
  have hbz := aam s
  refine a7 ?_; refine sx7 ?_; (iterate 2 refine qy ?_); refine rc rfl rfl rfl rfl rfl rfl a5e (a8p _) (⟨cci (by first | rfl | exact ug (by omega)), trivial⟩) rfl rfl ?_; refine qy ?_; refine a6 ?_
  refine a8 _ rfl (fun r1 => ?_) (fun r1 => ?_)
  ·
   have h1 := of_decide_eq_true r1
   try simp only [ty] at h1
   refine aa ?_; refine a7 ?_; refine ae ?_; refine sx7 ?_; refine qy ?_; refine a6 ?_; refine ae ?_
   refine ak (ι := List AS × Nat) ⟨[(0, some _), (4, some _)], []⟩ ⟨⟨c9, c9, trivial⟩, trivial⟩ (fun y => ⟨[(3, some (.v (.one (.ref 900 y.1.length)))), (5, some (vU y.2))], [(900, some (.arr true 1 38 y.1.length (lf sC y.1)))]⟩) (fun y => UpI s x.2 y) (fun y => s.toNat + 1 - y.2) ((x.1, 0)) (ayn hx) ⟨⟨zy, zy, trivial⟩, ⟨u9, trivial⟩⟩ ?_
   rintro y hy
   have hlen2 := hy.2.1
   have hyl := arw hy
   have hsa : asI s = (s.toNat : Int) := rfl
   refine a7 ?_; refine sx7 ?_; (iterate 2 refine qy ?_); refine rq rfl rfl rfl rfl rfl ?_ (hp := (by simp only [fb, inR, ju, l8]; omega)); refine qy ?_; refine a6 ?_
   refine a8 _ rfl (fun r2 => ?_) (fun r2 => ?_)
   ·
    have h2 := of_decide_eq_true r2
    try simp only [ty] at h2
    refine aa ?_; refine a7 ?_; refine ae ?_; refine sx7 ?_; refine qy ?_; refine rq rfl rfl rfl rfl rfl ?_ (hp := (by simp only [fb, inR, ju, l8]; omega))
    refine rc rfl rfl rfl rfl rfl rfl a5e (a8p _) (⟨cci (by first | rfl | exact ug (by omega)), trivial⟩) rfl rfl ?_; (iterate 2 refine qy ?_); refine a6 ?_; refine a8 _ rfl (fun r3 => ?_) (fun r3 => ?_)
    ·
     have h3 := of_decide_eq_true r3
     try simp only [ty] at h3
     refine gy ?_; (iterate 2 refine qy ?_); refine rq rfl rfl rfl rfl rfl ?_ (hp := (by simp only [fb, inR, ju, l8]; omega)); refine m9 0 ?_; refine ra 1 true rfl rfl rfl rfl rfl rfl ?_; refine qy ?_; refine a6 ?_
     refine gy ?_; (iterate 2 refine qy ?_); refine rq rfl rfl rfl rfl rfl ?_ (hp := (by simp only [fb, inR, ju, l8]; omega))
     refine rc rfl rfl rfl rfl rfl rfl ac5 (are y.2 s.toNat s.isLt (by omega)) (⟨CoC.refl _, cci rfl, trivial⟩) rfl rfl ?_; refine qy ?_; refine a6 ?_
     first | (refine ⟨(y.1 ++ [BitVec.ofNat 32 y.2], nxt y.2 s.toNat), ?_, ?_, ?_⟩
              · exact awt hy (by omega) (by omega)
              · have := (nr s.isLt (ws hy (by omega))).1
                dsimp only
                omega
              · exact ⟨⟨⟨_, rfl, (ee rfl)⟩, zy, c9, c9, trivial⟩, ⟨⟨_, rfl, (ey rfl (CoP.of_eq (congrArg (fun z => PV.raw (.int .u32 z)) (ug (by omega)))))⟩, trivial⟩⟩)
           | (refine ⟨(y.1, nxt y.2 s.toNat), ?_, ?_, ?_⟩
              · exact awg hy (by omega) (by omega)
              · have := (nr s.isLt (ws hy (by omega))).1
                dsimp only
                omega
              · exact ⟨⟨zy, zy, c9, c9, trivial⟩, ⟨u9, trivial⟩⟩)
    ·
     have h3 := of_decide_eq_false r3
     try simp only [ty] at h3
     refine aa ?_; refine gy ?_; (iterate 2 refine qy ?_); refine rq rfl rfl rfl rfl rfl ?_ (hp := (by simp only [fb, inR, ju, l8]; omega))
     refine rc rfl rfl rfl rfl rfl rfl ac5 (are y.2 s.toNat s.isLt (by omega)) (⟨CoC.refl _, cci rfl, trivial⟩) rfl rfl ?_; refine qy ?_; refine a6 ?_
     first | (refine ⟨(y.1 ++ [BitVec.ofNat 32 y.2], nxt y.2 s.toNat), ?_, ?_, ?_⟩
              · exact awt hy (by omega) (by omega)
              · have := (nr s.isLt (ws hy (by omega))).1
                dsimp only
                omega
              · exact ⟨⟨⟨_, rfl, (ee rfl)⟩, zy, c9, c9, trivial⟩, ⟨⟨_, rfl, (ey rfl (CoP.of_eq (congrArg (fun z => PV.raw (.int .u32 z)) (ug (by omega)))))⟩, trivial⟩⟩)
           | (refine ⟨(y.1, nxt y.2 s.toNat), ?_, ?_, ?_⟩
              · exact awg hy (by omega) (by omega)
              · have := (nr s.isLt (ws hy (by omega))).1
                dsimp only
                omega
              · exact ⟨⟨zy, zy, c9, c9, trivial⟩, ⟨u9, trivial⟩⟩)
   ·
    have h2 := of_decide_eq_false r2
    try simp only [ty] at h2
    refine am ?_; refine gy ?_; (iterate 3 refine qy ?_); refine a6 ?_; refine ⟨(y.1, x.2 + 1), ?_, ?_, ?_⟩
    · show UpK s (x.2 + 1) y.1 ∧ x.2 + 1 ≤ _
      exact ⟨auu (y := y) hy (by omega), by omega⟩
    · dsimp only
      omega
    · exact ⟨⟨zy, zy, c9, trivial⟩, ⟨u9, trivial⟩⟩
  ·
   have h1 := of_decide_eq_false r1
   try simp only [ty] at h1
   refine am ?_; refine sx7 ?_; (iterate 2 refine qy ?_); refine a6 ?_; refine bu 2 rfl rfl rfl ?_
   exact hx8 rfl rfl rfl (⟨CoC.one (CoP.of_eq (by rw [a5j h0, avf hx (by omega)]; rfl)), trivial⟩)
end Go.Hx
end
section
namespace Go.Hx
def ke (l : List Fd) (p x : AS) : Bool := decide (clo l x &&& p ≠ x) && decide (clo l x &&& p ≠ p)
def a3t (l : List Fd) (p : AS) : Option AS := (cu p).find? (ke l p)
def aeh (l : List Fd) (p x : AS) : Fd := ⟨x, (clo l x &&& p) &&& ~~~x⟩
def im (l : List Fd) (p : AS) : Fd := match a3t l p with
 | some x => aeh l p x
 | none => ⟨0, 0⟩
def d4 (l : List Fd) (p : AS) : Bool := (a3t l p).isSome
theorem a8r {α : Type} [Inhabited α] {q : α → Bool} {l : List α} {i : Nat} (hi : i < l.length) (hI : ∀ j, j < i → q (l.getD j default) = false) (h : q (l.getD i default) = true) : l.find? q = some (l.getD i default) := by
 rw [List.find?_eq_some_iff_getElem]
 refine ⟨h, i, hi, by simp [List.getD, hi], fun j hj => ?_⟩
 have := hI j hj
 rw [List.getD_eq_getElem?_getD, List.getElem?_eq_getElem (by omega), Option.getD_some] at this
 simp [this]
theorem a9q {α : Type} [Inhabited α] {q : α → Bool} {l : List α} (hI : ∀ j, j < l.length → q (l.getD j default) = false) : l.find? q = none := by
 rw [List.find?_eq_none]
 intro x hx
 obtain ⟨j, hj, rfl⟩ := List.getElem_of_mem hx
 have := hI j hj
 rw [List.getD_eq_getElem?_getD, List.getElem?_eq_getElem hj, Option.getD_some] at this
 simp [this]
theorem a8m {l : List Fd} {p : AS} {i : Nat} (hi : i < (cu p).length) (hI : ∀ j, j < i → ke l p ((cu p).getD j default) = false) (h : ke l p ((cu p).getD i default) = true) : im l p = aeh l p ((cu p).getD i default) ∧ d4 l p = true := by
 have e : a3t l p = some ((cu p).getD i default) := a8r hi hI h
 unfold im d4
 rw [e]
 exact ⟨rfl, rfl⟩
theorem a92 {l : List Fd} {p : AS} (hI : ∀ j, j < (cu p).length → ke l p ((cu p).getD j default) = false) : im l p = ⟨0, 0⟩ ∧ d4 l p = false := by
 have e : a3t l p = none := a9q hI
 unfold im d4
 rw [e]
 exact ⟨rfl, rfl⟩
theorem a3b {l : List Fd} {p x : AS} (h : d9 .and .u32 (asI (clo l x)) (asI p) = asI x) : ke l p x = false := by
 rw [o5, d6] at h
 unfold ke
 simp [h]
theorem a34 {l : List Fd} {p x : AS} (h : d9 .and .u32 (asI (clo l x)) (asI p) = asI p) : ke l p x = false := by
 rw [o5, d6] at h
 unfold ke
 simp [h]
theorem a2j {l : List Fd} {p x : AS} (h : ¬ d9 .and .u32 (asI (clo l x)) (asI p) = asI x) (k : ¬ d9 .and .u32 (asI (clo l x)) (asI p) = asI p) : ke l p x = true := by
 rw [o5, d6] at h k
 unfold ke
 simp [h, k]
theorem acv {l : List Fd} {p : AS} {i : Nat} {a b : PV} (hi : i < (cu p).length) (hI : ∀ j, j < i → ke l p ((cu p).getD j default) = false) (h : ke l p ((cu p).getD i default) = true) (ha : a = asC ((cu p).getD i default)) (hb : b = .raw (.int .u32 (d9 .andNot .u32 (d9 .and .u32 (asI (clo l ((cu p).getD i default))) (asI p)) (asI ((cu p).getD i default))))) : CoC (.agg [a, b]) (im l p).pc :=
 CoC.of_eq (by rw [(a8m hi hI h).1, ha, hb, o5, a4l]; rfl)
theorem a81 {l : List Fd} {p : AS} (hI : ∀ j, j < (cu p).length → ke l p ((cu p).getD j default) = false) : CoC (.agg [j7 (.int .u32 0), j7 (.int .u32 0)]) (im l p).pc := CoC.of_eq (by rw [(a92 hI).1]; rfl)
theorem a73 {s : AS} : ∀ (n : Nat) (x : AS), (wu s n x).length ≤ x.toNat + 1
 | 0, x => Nat.zero_le _
 | n + 1, x => by
  unfold wu
  by_cases h0 : x = 0
  · rw [if_pos h0]; simp
  · rw [if_neg h0, List.length_cons]
    have h1 := a73 (s := s) n ((x - 1) &&& s)
    have h2 := qo (s := s) h0
    omega
theorem yp (s : AS) : (cu s).length ≤ 4294967296 := by
 unfold cu sj
 have h1 := a73 (s := s) (s.toNat + 1) s
 have h2 := a4t (wu s (s.toNat + 1) s)
 have h3 := s.isLt
 split
 · simp
 · omega
end Go.Hx
end
section
namespace Go.Hx
open Go.Proofs
set_option maxRecDepth 100000
theorem a2k : goodFn Tryz.prog 62 := ⟨Tryz.f62, Tryz.func62, by kernel_rfl, by kernel_rfl⟩
theorem a7n (l : List Fd) (p : AS) : aj Tryz.prog 62 [pP (fdl l), pA p] (aq [(im l p).pc, pB (d4 l p)]) := by
 refine ag (nt := 36) af Tryz.func62 rfl rfl l9 ?_; refine sx7 ?_; refine m9 0 ?_; refine qy ?_; refine a6 ?_; refine a7 ?_; refine sx7 ?_; refine qy ?_
 refine rc rfl rfl rfl rfl rfl rfl al7 (azr p) (CoL.refl _) rfl rfl ?_; (iterate 2 refine qy ?_); refine a6 ?_; refine ae ?_
 refine ak (ι := Nat) ⟨[(0, some _), (1, some _), (4, some _), (10, some _), (11, some _)], [(0, some _)]⟩ ⟨⟨c9, c9, c9, c9, c9, trivial⟩, ⟨u9, trivial⟩⟩ (fun i => ⟨[(12, some (vI i))], []⟩) (fun i => i ≤ (cu p).length ∧ (∀ j, j < i → ke l p ((cu p).getD j default) = false)) (fun i => (cu p).length - i) (0) (⟨Nat.zero_le _, bt⟩) ⟨⟨zy, trivial⟩, trivial⟩ ?_
 rintro i ⟨hi, hI⟩
 have hlen := yp p
 refine sx7 ?_; refine qy ?_; refine a6 ?_; refine a7 ?_; refine a8 _ rfl (fun r0 => ?_) (fun r0 => ?_)
 ·
  have h0 := of_decide_eq_true r0
  try simp only [ty] at h0
  refine aa ?_; refine a7 ?_; refine ae ?_; refine sx7 ?_; (iterate 3 refine qy ?_); refine a6 ?_; refine sx7 ?_; (iterate 2 refine qy ?_)
  refine rc rfl rfl rfl rfl rfl rfl zz (a3k l ((cu p).getD i default)) (CoL.refl _) rfl rfl ?_; (iterate 3 refine qy ?_); refine a6 ?_; refine sx7 ?_; (iterate 4 refine qy ?_)
  refine bh rfl rfl (fun r1 => ?_) (fun r1 => ?_)
  ·
   have h1 := r1
   have h1 := of_decide_eq_false (az h1)
   try simp only [ty] at h1
   (iterate 3 refine qy ?_ (hg := (gtt r1))); refine qy ?_; refine a6 ?_; refine a8 _ rfl (fun r2 => ?_) (fun r2 => ?_)
   ·
    have h2 := r2
    have h2 := dw r1 h2
    have h2 := of_decide_eq_false (az h2)
    try simp only [ty] at h2
    refine sx7 ?_; (iterate 5 refine qy ?_); refine s9 ?_; refine qy ?_; refine a6 ?_
    exact hx8 rfl rfl rfl (⟨acv (i := i) (by omega) hI (a2j h1 h2) rfl rfl, ccb (a8m (i := i) (by omega) hI (a2j h1 h2)).2.symm, trivial⟩)
   ·
    have h2 := r2
    have h2 := dw r1 h2
    have h2 := of_decide_eq_true (b4 h2)
    try simp only [ty] at h2
    refine aa ?_; refine gy ?_; (iterate 2 refine qy ?_); refine a6 ?_; refine ⟨i + 1, ?_, ?_, ?_⟩
    · exact ⟨by show i + 1 ≤ _; omega, be hI (by first | exact a3b h1 | exact a34 h2)⟩
    · first | omega | (dsimp only; omega)
    · exact ⟨⟨zy, c9, c9, c9, c9, c9, trivial⟩, ⟨u9, trivial⟩⟩
  ·
   have h1 := r1
   have h1 := of_decide_eq_true (b4 h1)
   try simp only [ty] at h1
   (iterate 3 refine k9 (gft r1) ?_); refine rq rfl rfl rfl rfl rfl ?_ (hp := r1); refine a6 ?_; refine a8 _ rfl (fun e => by cases e) (fun _ => ?_); refine aa ?_; refine gy ?_; (iterate 2 refine qy ?_)
   refine a6 ?_; refine ⟨i + 1, ?_, ?_, ?_⟩
   · exact ⟨by show i + 1 ≤ _; omega, be hI (by first | exact a3b h1 | exact a34 h2)⟩
   · first | omega | (dsimp only; omega)
   · exact ⟨⟨zy, c9, c9, c9, c9, c9, trivial⟩, ⟨u9, trivial⟩⟩
 ·
  have h0 := of_decide_eq_false r0
  try simp only [ty] at h0
  refine am ?_; refine sx7 ?_; refine qy ?_; refine s9 ?_; refine qy ?_; refine a6 ?_
  exact hx8 rfl rfl rfl (⟨a81 (fun j hj => hI j (by omega)), ccb (a92 (fun j hj => hI j (by omega))).2.symm, trivial⟩)
theorem asq : goodFn Tryz.prog 120 := ⟨Tryz.f120, Tryz.func120, by kernel_rfl, by kernel_rfl⟩
theorem ay0 (l : List Fd) (p : AS) : aj Tryz.prog 120 [pP (fdl l), pA p] (aq [(im l p).pc, pB (d4 l p)]) := by
 refine ag (nt := 48) af Tryz.func120 rfl rfl l9 ?_; refine sx7 ?_; refine m9 0 ?_; refine qy ?_; refine a6 ?_; refine sx7 ?_; refine qy ?_; refine rc rfl rfl rfl rfl rfl rfl asc (ax5 p) (CoL.refl _) rfl rfl ?_
 refine qy ?_; refine a6 ?_; refine a7 ?_; refine sx7 ?_; refine qy ?_; refine a6 ?_; refine ae ?_
 refine ak (ι := Nat) ⟨[(0, some _), (1, some _), (4, some _), (6, some _)], [(0, some _)]⟩ ⟨⟨c9, c9, c9, c9, trivial⟩, ⟨u9, trivial⟩⟩ (fun i => ⟨[(7, some (vI i))], []⟩) (fun i => i ≤ (cu p).length ∧ (∀ j, j < i → ke l p ((cu p).getD j default) = false)) (fun i => (cu p).length - i) (0) (⟨Nat.zero_le _, bt⟩) ⟨⟨zy, trivial⟩, trivial⟩ ?_
 rintro i ⟨hi, hI⟩
 have hlen := yp p
 refine a7 ?_; refine sx7 ?_; (iterate 4 refine qy ?_); refine a6 ?_; refine a8 _ rfl (fun r0 => ?_) (fun r0 => ?_)
 ·
  have h0 := of_decide_eq_true r0
  try simp only [ty] at h0
  refine aa ?_; refine a7 ?_; refine ae ?_; refine sx7 ?_; (iterate 5 refine qy ?_); refine rc rfl rfl rfl rfl rfl rfl avw (ato l ((cu p).getD i default)) (CoL.refl _) rfl rfl ?_; (iterate 3 refine qy ?_)
  refine a6 ?_; refine sx7 ?_; (iterate 7 refine qy ?_); refine bh rfl rfl (fun r1 => ?_) (fun r1 => ?_)
  ·
   have h1 := r1
   have h1 := of_decide_eq_false (az h1)
   try simp only [ty] at h1
   (iterate 3 refine qy ?_ (hg := (gtt r1))); refine qy ?_; refine a6 ?_; refine a8 _ rfl (fun r2 => ?_) (fun r2 => ?_)
   ·
    have h2 := r2
    have h2 := dw r1 h2
    have h2 := of_decide_eq_false (az h2)
    try simp only [ty] at h2
    refine a7 ?_; refine ay (E := b6) af au [0, 1, 2, 3, 4, 5, 6, 7, 8, 9, 10, 11, 12] ?_; (iterate 11 refine qy ?_); refine s9 ?_; refine qy ?_; refine a6 ?_; refine ⟨by kernel_rfl, ?_⟩
    exact hx8 rfl rfl rfl (⟨acv (i := i) (by omega) hI (a2j h1 h2) rfl rfl, ccb (a8m (i := i) (by omega) hI (a2j h1 h2)).2.symm, trivial⟩)
   ·
    have h2 := r2
    have h2 := dw r1 h2
    have h2 := of_decide_eq_true (b4 h2)
    try simp only [ty] at h2
    refine aa ?_; refine gy ?_; (iterate 3 refine qy ?_); refine a6 ?_; refine ⟨i + 1, ?_, ?_, ?_⟩
    · exact ⟨by show i + 1 ≤ _; omega, be hI (by first | exact a3b h1 | exact a34 h2)⟩
    · first | omega | (dsimp only; omega)
    · exact ⟨⟨zy, c9, c9, c9, c9, trivial⟩, ⟨u9, trivial⟩⟩
  ·
   have h1 := r1
   have h1 := of_decide_eq_true (b4 h1)
   try simp only [ty] at h1
   (iterate 3 refine k9 (gft r1) ?_); refine rq rfl rfl rfl rfl rfl ?_ (hp := r1); refine a6 ?_; refine a8 _ rfl (fun e => by cases e) (fun _ => ?_); refine aa ?_; refine gy ?_; (iterate 3 refine qy ?_)
   refine a6 ?_; refine ⟨i + 1, ?_, ?_, ?_⟩
   · exact ⟨by show i + 1 ≤ _; omega, be hI (by first | exact a3b h1 | exact a34 h2)⟩
   · first | omega | (dsimp only; omega)
   · exact ⟨⟨zy, c9, c9, c9, c9, trivial⟩, ⟨u9, trivial⟩⟩
 ·
  have h0 := of_decide_eq_false r0
  try simp only [ty] at h0
  refine am ?_; refine sx7 ?_; refine qy ?_; refine s9 ?_; refine qy ?_; refine a6 ?_
  exact hx8 rfl rfl rfl (⟨a81 (fun j hj => hI j (by omega)), ccb (a92 (fun j hj => hI j (by omega))).2.symm, trivial⟩)
theorem ayx : goodFn Tryz.prog 67 := ⟨Tryz.f67, Tryz.func67, by kernel_rfl, by kernel_rfl⟩
theorem ax2 (l : List Fd) (p : AS) : aj Tryz.prog 67 [pP (fdl l), pA p] (aq [pB (!d4 l p)]) := by
 refine ag (nt := 15) af Tryz.func67 rfl rfl l9 ?_; refine sx7 ?_; refine qy ?_; refine a6 ?_; refine sx7 ?_; (iterate 2 refine qy ?_); refine rc rfl rfl rfl rfl rfl rfl asq (ay0 l p) (CoL.refl _) rfl rfl ?_
 (iterate 3 refine qy ?_); refine m9 0 ?_; refine s9 ?_; refine qy ?_; refine a6 ?_; refine sx7 ?_; (iterate 3 refine qy ?_); refine a6 ?_
 exact hx8 rfl rfl rfl (CoL.refl _)
end Go.Hx
end
