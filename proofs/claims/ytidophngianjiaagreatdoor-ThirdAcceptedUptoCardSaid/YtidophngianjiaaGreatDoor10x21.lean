/- A part of the proof: V11 Cs14 V12 Cs15 Cs16 Cs17 Cs18 Cs19 V17 Hx20. -/
import Derived.Test.YtidophngianjiaaGreatDoor10x15
import Derived.Test.YtidophngianjiaaGreatDoor10x20
set_option linter.all false
section
namespace Go.Hx
open Go.Proofs
set_option maxRecDepth 100000
theorem ass : goodFn Tryz.prog 203 := ⟨Tryz.f203, Tryz.func203, by kernel_rfl, by kernel_rfl⟩
theorem avt (l : List Fd) (hl : l.length ≤ 4096) : ee Tryz.prog 203 [.one (.p (fdl l))] [] (.v (.one (.ref 900 (spl l).length))) [(900, .arr true 2 40 (spl l).length (lf Fd.c (spl l)))] [] := by
 refine gl (nt := 37) af Tryz.func203 rfl rfl l9 rfl ?_; refine sx7 ?_; refine qy ?_; refine a6 ?_; refine sx7 ?_; refine qy ?_; refine a6 ?_; (iterate 2 refine a7 ?_)
 refine d1 0 rfl fun hn => ?_
 refine gy ?_; (iterate 3 refine qy ?_); refine a6 ?_; refine ae ?_
 refine dp 3 901 true 2 40 (lf Fd.c []) (by decide) rfl (CoP.sl rfl (.inr rfl) (fun h => h) (fun i j hi _ => absurd hi (Nat.not_lt_zero i))) (.inr rfl) rfl ?_
 refine ai (ι := Nat) ⟨[(8, some _), (9, some _)], []⟩ ⟨⟨c9, c9, trivial⟩, trivial⟩ (fun i => ⟨[(3, some (.v (.one (.ref 901 (er (l.take i)).length)))), (10, some (vI i))], [(901, some (.arr true 2 40 (er (l.take i)).length (lf Fd.c (er (l.take i)))))]⟩) (fun i => i ≤ l.length) (fun i => l.length - i) (0) (Nat.zero_le _) ⟨⟨zy, zy, trivial⟩, ⟨u9, trivial⟩⟩ ?_
 rintro i hi
 refine sx7 ?_; refine qy ?_; refine a6 ?_; refine a7 ?_; refine a8 _ rfl (fun r0 => ?_) (fun r0 => ?_)
 ·
  have h0 := of_decide_eq_true r0
  try simp only [ty] at h0
  refine aa ?_; refine a7 ?_; refine ae ?_; refine sx7 ?_; (iterate 2 refine qy ?_); refine m9 0 ?_; refine s9 ?_; refine a6 ?_; refine sx7 ?_; (iterate 5 refine qy ?_)
  refine rc rfl rfl rfl rfl rfl rfl a6z (aox ((l.getD i default).rhs &&& ~~~(l.getD i default).lhs)) (⟨cci (zp _ _), trivial⟩) rfl rfl ?_; (iterate 2 refine qy ?_); refine a6 ?_; refine ae ?_
  refine ai (ι := Nat) ⟨[(5, some _), (8, some _), (9, some _), (10, some _), (19, some _), (20, some _)], [(0, some _)]⟩ ⟨⟨c9, c9, c9, c9, c9, c9, trivial⟩, ⟨u9, trivial⟩⟩ (fun k => ⟨[(3, some (.v (.one (.ref 901 (kr l i k).length)))), (21, some (vI k))], [(901, some (.arr true 2 40 (kr l i k).length (lf Fd.c (kr l i k))))]⟩) (fun k => k ≤ (b5 ((l.getD i default).rhs &&& ~~~(l.getD i default).lhs)).length) (fun k => (b5 ((l.getD i default).rhs &&& ~~~(l.getD i default).lhs)).length - k) (0) (Nat.zero_le _) ⟨⟨⟨_, rfl, (fu (a2e l i))⟩, zy, trivial⟩, ⟨⟨_, rfl, (dy (a2e l i))⟩, trivial⟩⟩ ?_
  rintro k hk
  have hml := xt ((l.getD i default).rhs &&& ~~~(l.getD i default).lhs)
  have hsl := aif (l := l) (i := i) (k := k) (by omega)
  refine sx7 ?_; refine qy ?_; refine a6 ?_; refine a7 ?_; refine a8 _ rfl (fun r1 => ?_) (fun r1 => ?_)
  ·
   have h1 := of_decide_eq_true r1
   try simp only [ty] at h1
   refine aa ?_; refine a7 ?_; refine ae ?_; refine sx7 ?_; (iterate 3 refine qy ?_); refine a6 ?_; refine b7 (E := bm) af ar [0, 1, 2, 3, 4, 5, 6, 7, 8] ?_; (iterate 4 refine qy ?_)
   refine rq rfl rfl rfl rfl rfl ?_ (hp := (Int.natCast_nonneg _)); refine qy ?_; refine m9 1 ?_; refine ra 2 true rfl rfl rfl rfl rfl rfl ?_; refine qy ?_; refine a6 ?_; refine ⟨by kernel_rfl, ?_⟩; refine gy ?_
   (iterate 2 refine qy ?_); refine a6 ?_; refine ⟨k + 1, ?_, ?_, ?_⟩
   · show k + 1 ≤ _; omega
   · first | omega | (dsimp only; omega)
   · exact ⟨⟨⟨_, rfl, (dc (a2u rfl (by omega)))⟩, zy, c9, c9, c9, c9, c9, c9, trivial⟩, ⟨⟨_, rfl, (j3 (a2u rfl (by omega)) (CoP.refl _) (CoP.of_eq (by exact congrArg (fun z => PV.raw (.int .u32 z)) (aw4 _))))⟩, u9, trivial⟩⟩
  ·
   have h1 := of_decide_eq_false r1
   try simp only [ty] at h1
   obtain rfl : k = (b5 ((l.getD i default).rhs &&& ~~~(l.getD i default).lhs)).length := by omega
   refine ak ?_; refine gy ?_; (iterate 2 refine qy ?_); refine a6 ?_; refine ⟨i + 1, ?_, ?_, ?_⟩
   · show i + 1 ≤ _; omega
   · first | omega | (dsimp only; omega)
   · exact ⟨⟨⟨_, rfl, (fu (a60 (by omega) rfl).symm)⟩, zy, c9, c9, trivial⟩, ⟨⟨_, rfl, (dy (a60 (by omega) rfl).symm)⟩, trivial⟩⟩
 ·
  have h0 := of_decide_eq_false r0
  try simp only [ty] at h0
  obtain rfl : i = l.length := by omega
  refine ak ?_; refine a7 ?_; refine br 3 rfl rfl rfl ?_; refine gy ?_; refine qy ?_
  refine cz rfl rfl rfl rfl rfl rfl aew (amv (er l) (Nat.le_trans (y9 l) (by omega))) (⟨CoP.of_eq (by rw [List.take_length]; rfl), trivial⟩) trivial rfl rfl ?_; refine qy ?_; refine a6 ?_
  refine am ?_; refine ⟨.inr rfl, ?_⟩
  exact ⟨_, _, rfl, (by (repeat' apply And.intro) <;> first | trivial | exact Nat.le_of_ble_eq_true rfl), CoR.refl _, ⟨u9, trivial⟩⟩
theorem av2 : goodFn Tryz.prog 165 := ⟨Tryz.f165, Tryz.func165, by kernel_rfl, by kernel_rfl⟩
theorem b2g (l : List Fd) (hl : l.length ≤ 4096) : ah Tryz.prog 165 [pP (fdl l)] (ap [pP (fdl (jq l))]) := by
 refine ag (nt := 60) af Tryz.func165 rfl rfl l9 ?_; refine sx7 ?_; refine qy ?_; refine a6 ?_; refine sx7 ?_; refine qy ?_
 refine cz rfl rfl rfl rfl rfl rfl ass (avt l hl) (fk.refl _) trivial rfl rfl ?_; refine qy ?_; refine a6 ?_; (iterate 2 refine a7 ?_)
 have hsl := ago l
 refine gy ?_; (iterate 3 refine qy ?_); refine a6 ?_; refine ae ?_
 refine ai (ι := Nat) ⟨[(3, some _), (11, some _)], []⟩ ⟨⟨c9, c9, trivial⟩, trivial⟩ (fun i => ⟨[(12, some (vI i))], [(900, some (.arr true 2 40 (spl l).length (lf Fd.c (gi (spl l) i))))]⟩) (fun i => i ≤ (spl l).length) (fun i => (spl l).length - i) (0) (Nat.zero_le _) ⟨⟨zy, trivial⟩, ⟨u9, trivial⟩⟩ ?_
 rintro i hi
 have htl := jm (l := spl l) (i := i)
 refine sx7 ?_; refine qy ?_; refine a6 ?_; refine a7 ?_; refine a8 _ rfl (fun r0 => ?_) (fun r0 => ?_)
 ·
  have h0 := of_decide_eq_true r0
  try simp only [ty] at h0
  refine aa ?_; refine a7 ?_; refine ae ?_; refine sx7 ?_; (iterate 2 refine qy ?_); refine a6 ?_; refine sx7 ?_; (iterate 5 refine qy ?_)
  refine rc rfl rfl rfl rfl rfl rfl a6z (aox ((gi (spl l) i).getD i default).lhs) (CoL.refl _) rfl rfl ?_; (iterate 2 refine qy ?_); refine a6 ?_; refine ae ?_
  refine ai (ι := Nat) ⟨[(3, some _), (4, some _), (11, some _), (12, some _), (20, some _), (21, some _)], []⟩ ⟨⟨c9, c9, c9, c9, c9, c9, trivial⟩, trivial⟩ (fun k => ⟨[(22, some (vI k))], [(900, some (.arr true 2 40 (spl l).length (lf Fd.c (mj (gi (spl l) i) i k))))]⟩) (fun k => k ≤ (b5 ((gi (spl l) i).getD i default).lhs).length) (fun k => (b5 ((gi (spl l) i).getD i default).lhs).length - k) (0) (Nat.zero_le _) ⟨⟨zy, trivial⟩, ⟨⟨_, rfl, (iu (ajh _ _) rfl)⟩, trivial⟩⟩ ?_
  rintro k hk
  have hml := xt ((gi (spl l) i).getD i default).lhs
  refine sx7 ?_; refine qy ?_; refine a6 ?_; refine a7 ?_; refine a8 _ rfl (fun r1 => ?_) (fun r1 => ?_)
  ·
   have h1 := of_decide_eq_true r1
   try simp only [ty] at h1
   have hkl : (mj (gi (spl l) i) i k).length = (spl l).length := by rw [ab1, jm]
   have hhas := ang (l := (gi (spl l) i)) (i := i) (k := k) (by rw [jm]; omega) (by omega)
   refine aa ?_; refine a7 ?_; refine ae ?_; refine sx7 ?_; (iterate 3 refine qy ?_); refine a6 ?_; refine sx7 ?_; (iterate 6 refine qy ?_)
   refine rc rfl rfl rfl rfl rfl rfl axa (azg (mj (gi (spl l) i) i k) ((mj (gi (spl l) i) i k).getD i default) ((b5 ((gi (spl l) i).getD i default).lhs).getD k default)) (⟨CoC.one (agp (by rw [ab1, jm])), CoC.refl _, CoC.refl _, trivial⟩) rfl rfl ?_
   refine a6 ?_; refine a8 _ rfl (fun r2 => ?_) (fun r2 => ?_)
   ·
    have h2 := r2
    refine b7 (E := bm) af ar [0, 1, 2, 3, 4, 5, 6, 7, 8, 9, 10] ?_; (iterate 6 refine qy ?_); refine rq rfl rfl rfl rfl rfl ?_ (hp := (Int.natCast_nonneg _)); (iterate 3 refine qy ?_); refine s9 ?_
    refine a6 ?_; refine ⟨by kernel_rfl, ?_⟩; refine gy ?_; (iterate 2 refine qy ?_); refine a6 ?_
    first | (refine ⟨k + 1, ?_, ?_, ?_⟩
             · show k + 1 ≤ _; omega
             · first | omega | (dsimp only; omega)
             · exact ⟨⟨zy, c9, c9, c9, c9, c9, c9, trivial⟩, ⟨⟨_, rfl, (aes (i := i) (a := (b5 ((gi (spl l) i).getD i default).lhs).getD k default) (l := (mj (gi (spl l) i) i k)) (by rw [ug (by omega), ac4 hhas (by assumption)]) (a10 _ _) (by omega) (by omega) hkl.symm)⟩, trivial⟩⟩)
          | (refine ⟨k + 1, ?_, ?_, ?_⟩
             · show k + 1 ≤ _; omega
             · first | omega | (dsimp only; omega)
             · exact ⟨⟨zy, c9, c9, c9, c9, c9, c9, trivial⟩, ⟨⟨_, rfl, (iu (by rw [ug (by omega), aa6 (by assumption)]) rfl)⟩, trivial⟩⟩)
   ·
    have h2 := r2
    refine aa ?_; refine gy ?_; (iterate 2 refine qy ?_); refine a6 ?_
    first | (refine ⟨k + 1, ?_, ?_, ?_⟩
             · show k + 1 ≤ _; omega
             · first | omega | (dsimp only; omega)
             · exact ⟨⟨zy, c9, c9, c9, c9, c9, c9, trivial⟩, ⟨⟨_, rfl, (aes (i := i) (a := (b5 ((gi (spl l) i).getD i default).lhs).getD k default) (l := (mj (gi (spl l) i) i k)) (by rw [ug (by omega), ac4 hhas (by assumption)]) (a10 _ _) (by omega) (by omega) hkl.symm)⟩, trivial⟩⟩)
          | (refine ⟨k + 1, ?_, ?_, ?_⟩
             · show k + 1 ≤ _; omega
             · first | omega | (dsimp only; omega)
             · exact ⟨⟨zy, c9, c9, c9, c9, c9, c9, trivial⟩, ⟨⟨_, rfl, (iu (by rw [ug (by omega), aa6 (by assumption)]) rfl)⟩, trivial⟩⟩)
  ·
   have h1 := of_decide_eq_false r1
   try simp only [ty] at h1
   obtain rfl : k = (b5 ((gi (spl l) i).getD i default).lhs).length := by omega
   refine ak ?_; refine gy ?_; (iterate 2 refine qy ?_); refine a6 ?_; refine ⟨i + 1, ?_, ?_, ?_⟩
   · show i + 1 ≤ _; omega
   · first | omega | (dsimp only; omega)
   · exact ⟨⟨zy, c9, c9, trivial⟩, ⟨⟨_, rfl, (iu (by rw [nq, apw rfl]) rfl)⟩, trivial⟩⟩
 ·
  have h0 := of_decide_eq_false r0
  try simp only [ty] at h0
  obtain rfl : i = (spl l).length := by omega
  refine ak ?_; refine a7 ?_; refine br 3 rfl rfl rfl ?_; refine gy ?_; refine qy ?_
  refine rc rfl rfl rfl rfl rfl rfl aew (b10 (gi (spl l) (spl l).length) (by rw [jm]; omega)) (⟨CoC.one (agp (by rw [jm])), trivial⟩) rfl rfl ?_; refine qy ?_; refine a6 ?_; (iterate 2 refine a7 ?_)
  have hrl := a4r l
  refine gy ?_; refine qy ?_; refine a6 ?_; refine ae ?_
  refine ai (ι := List Fd × Nat) ⟨[], []⟩ ⟨trivial, trivial⟩ (fun x => ⟨[(3, some (c5 (fdl x.1))), (7, some (vI x.2))], []⟩) (fun x => gw (x.1.length - x.2) x.1 x.2 = jq l ∧ x.2 ≤ x.1.length ∧ x.1.length ≤ 131072) (fun x => x.1.length - x.2) ((u5 l, 0)) (⟨rfl, Nat.zero_le _, by show (u5 l).length ≤ _; omega⟩) ⟨⟨zy, ⟨_, rfl, (coi rfl)⟩, trivial⟩, trivial⟩ ?_
  rintro x ⟨hx, hx2, hx3⟩
  refine a7 ?_; refine sx7 ?_; (iterate 4 refine qy ?_); refine a6 ?_; refine a8 _ rfl (fun r3 => ?_) (fun r3 => ?_)
  ·
   have h3 := of_decide_eq_true r3
   try simp only [ty] at h3
   refine aa ?_; refine ae ?_; refine sx7 ?_; (iterate 2 refine qy ?_); refine rc rfl rfl rfl rfl rfl rfl avl (azi x.1 x.2 (by omega) (by omega)) (CoL.refl _) rfl rfl ?_; refine a6 ?_
   refine a8 _ rfl (fun r4 => ?_) (fun r4 => ?_)
   ·
    have h4 := r4
    have hq := r4
    refine gy ?_; (iterate 2 refine qy ?_); refine rc rfl rfl rfl rfl rfl rfl aex (af7 x.1 x.2 (by omega) (by omega)) (CoL.refl _) rfl rfl ?_; refine qy ?_; refine a6 ?_
    first | (refine ⟨(ck x.1 x.2, x.2), ?_, ?_, ?_⟩
             · have ho := iq (l := x.1) (i := x.2) (by omega)
               exact ⟨by rw [← hx, agj (by omega) hq], by dsimp only; omega, by dsimp only; omega⟩
             · have ho := iq (l := x.1) (i := x.2) (by omega)
               dsimp only; omega
             · exact ⟨⟨zy, ⟨_, rfl, (coi (by first | rfl | (dsimp only; omega)))⟩, trivial⟩, trivial⟩)
          | (refine ⟨(x.1, x.2 + 1), ?_, ?_, ?_⟩
             · exact ⟨by rw [← hx, af1 (by omega) hq], by dsimp only; omega, by dsimp only; omega⟩
             · first | omega | (dsimp only; omega)
             · exact ⟨⟨zy, ⟨_, rfl, (coi (by first | rfl | (dsimp only; omega)))⟩, trivial⟩, trivial⟩)
   ·
    have h4 := r4
    have hq := r4
    refine gy ?_; (iterate 3 refine qy ?_); refine a6 ?_
    first | (refine ⟨(ck x.1 x.2, x.2), ?_, ?_, ?_⟩
             · have ho := iq (l := x.1) (i := x.2) (by omega)
               exact ⟨by rw [← hx, agj (by omega) hq], by dsimp only; omega, by dsimp only; omega⟩
             · have ho := iq (l := x.1) (i := x.2) (by omega)
               dsimp only; omega
             · exact ⟨⟨zy, ⟨_, rfl, (coi (by first | rfl | (dsimp only; omega)))⟩, trivial⟩, trivial⟩)
          | (refine ⟨(x.1, x.2 + 1), ?_, ?_, ?_⟩
             · exact ⟨by rw [← hx, af1 (by omega) hq], by dsimp only; omega, by dsimp only; omega⟩
             · first | omega | (dsimp only; omega)
             · exact ⟨⟨zy, ⟨_, rfl, (coi (by first | rfl | (dsimp only; omega)))⟩, trivial⟩, trivial⟩)
  ·
   have h3 := of_decide_eq_false r3
   try simp only [ty] at h3
   have hq := h3
   refine ak ?_; refine sx7 ?_; (iterate 2 refine qy ?_); refine a6 ?_
   exact hx8 rfl rfl rfl (⟨CoC.one (CoP.of_eq (by rw [← hx, al1 (by omega)])), trivial⟩)
end Go.Hx
end
section
namespace Go.Hx
def gt (n : Int) (l : List Fd) : List Fd := if av n l = 0 then jq l else []
theorem tc {n : Int} {l : List Fd} (h : av n l = 0) : gt n l = jq l := if_pos h
theorem akc {n : Int} {l : List Fd} (h : ¬ av n l = 0) : gt n l = [] := if_neg h
theorem ayi {s : Nat} {cl : Bool} {f : Nat → Nat → PV} {L : List Fd} (h : L = []) : CoP (.sl 0 s cl f) (fdl L) := by subst h; exact aja
theorem b0j {s : Nat} {cl : Bool} {f : Nat → Nat → PV} {L : List AS} (h : L = []) : CoP (.sl 0 s cl f) (asl L) := by subst h; exact aja
def b42 (l : List Fd) (i k : Nat) : List Fd := (List.range k).foldl (dt i) l
end Go.Hx
end
section
namespace Go.Hx
open Go.Proofs
set_option maxRecDepth 100000
theorem afc : goodFn Tryz.prog 115 := ⟨Tryz.f115, Tryz.func115, by kernel_rfl, by kernel_rfl⟩
theorem as3 (n : Int) (l : List Fd) : ah Tryz.prog 115 [pI n, pP (fdl l)] (ap [pP (fdl (gt n l)), pI (av n l)]) := by
 refine ag (nt := 15) af Tryz.func115 rfl rfl l9 ?_; refine sx7 ?_; (iterate 2 refine qy ?_); refine a6 ?_; refine a7 ?_; refine sx7 ?_; (iterate 2 refine qy ?_)
 refine rc rfl rfl rfl rfl rfl rfl tj (sx n l) (CoL.refl _) rfl rfl ?_; refine qy ?_; refine a6 ?_; refine sx7 ?_; (iterate 2 refine qy ?_); refine a6 ?_; refine a8 _ rfl (fun r0 => ?_) (fun r0 => ?_)
 ·
  have h0 := r0
  have h0 := of_decide_eq_false (ax h0)
  try simp only [ty] at h0
  refine sx7 ?_; (iterate 3 refine qy ?_); refine a6 ?_
  exact hx8 rfl rfl rfl (⟨CoC.one (ayi (akc (by assumption))), CoC.refl _, trivial⟩)
 ·
  have h0 := r0
  have h0 := of_decide_eq_true (aw h0)
  try simp only [ty] at h0
  refine aa ?_; refine sx7 ?_; refine qy ?_; refine rc rfl rfl rfl rfl rfl rfl av2 (b2g l (by have := (cr (by assumption)).2.2.1; omega)) (CoL.refl _) rfl rfl ?_; (iterate 2 refine qy ?_); refine a6 ?_
  exact hx8 rfl rfl rfl (⟨CoC.one (CoP.of_eq (by rw [tc (by assumption)])), cci (by omega), trivial⟩)
end Go.Hx
end
section
namespace Go.Hx
theorem a5r (a b : Nat) : a &&& b = 2 * (a / 2 &&& b / 2) + (a % 2 &&& b % 2) := by
 have h1 := Nat.div_add_mod (a &&& b) 2
 have h2 : (a &&& b) % 2 = a % 2 &&& b % 2 := by
  have := Nat.and_mod_two_pow (a := a) (b := b) (n := 1)
  simpa using this
 rw [Nat.and_div_two, h2] at h1
 exact h1.symm
theorem aeu (a b : Nat) : (a % 2 &&& b % 2) = if a % 2 = 1 ∧ b % 2 = 1 then 1 else 0 := by
 rcases Nat.mod_two_eq_zero_or_one a with h | h <;> rcases Nat.mod_two_eq_zero_or_one b with k | k <;> rw [h, k] <;> rfl
theorem a8i {x s : Nat} (h : x &&& s = x) : (x / 2 &&& s / 2 = x / 2) ∧ (x % 2 = 1 → s % 2 = 1) := by
 have h1 := a5r x s
 rw [h, aeu] at h1
 split at h1 <;> rename_i hc
 · exact ⟨by omega, fun _ => hc.2⟩
 · exact ⟨by omega, fun hx => by omega⟩
theorem aqi : ∀ (x s z : Nat), x &&& s = x → z &&& s = z → z < x → z ≤ ((x - 1) &&& s) := by
 intro x
 induction x using Nat.strongRecOn with
 | _ x ih =>
  intro s z hx hz hlt
  obtain ⟨x1, x2⟩ := a8i hx
  obtain ⟨z1, z2⟩ := a8i hz
  rw [a5r (x - 1) s, aeu]
  rcases Nat.mod_two_eq_zero_or_one x with hb | hb
  · have e1 : (x - 1) / 2 = x / 2 - 1 := by omega
    have e2 : (x - 1) % 2 = 1 := by omega
    have := ih (x / 2) (by omega) (s / 2) (z / 2) x1 z1 (by omega)
    rw [e1, e2]
    by_cases hs : s % 2 = 1
    · rw [if_pos ⟨rfl, hs⟩]; omega
    · rw [if_neg (fun h => hs h.2)]
      have : z % 2 = 0 := by omega
      omega
  · have e1 : (x - 1) / 2 = x / 2 := by omega
    have e2 : (x - 1) % 2 = 0 := by omega
    rw [e1, e2, x1, if_neg (by omega)]
    omega
theorem aa9 {z s : AS} : sub z s ↔ z.toNat &&& s.toNat = z.toNat := by
 rw [← BitVec.toNat_and, BitVec.toNat_inj, az]
 constructor
 · intro h
   apply BitVec.eq_of_getLsbD_eq
   intro k hk
   rw [BitVec.getLsbD_and]
   cases hz : z.getLsbD k with
   | false => rfl
   | true => rw [h k hk hz]; rfl
 · intro h i _ hi
   rw [← h, BitVec.getLsbD_and] at hi
   simp at hi
   exact hi.2
def as9 (s : AS) : Nat → AS → List AS
 | 0, _ => []
 | n + 1, x => x :: if x = 0 then [] else as9 s n ((x - 1) &&& s)
theorem y4 {x : AS} (h : x ≠ 0) : (x - 1).toNat = x.toNat - 1 := by
 have h0 : x.toNat ≠ 0 := fun e => h (BitVec.eq_of_toNat_eq e)
 have := x.isLt
 rw [BitVec.toNat_sub]
 show (2 ^ 32 - 1 + x.toNat) % 2 ^ 32 = _
 omega
theorem aql {x s : AS} : sub ((x - 1) &&& s) s := by
 rw [aa9, BitVec.toNat_and, Nat.and_assoc, Nat.and_self]
theorem a7z {x s : AS} (h : x ≠ 0) : ((x - 1) &&& s).toNat < x.toNat := by
 have h0 : x.toNat ≠ 0 := fun e => h (BitVec.eq_of_toNat_eq e)
 rw [BitVec.toNat_and, y4 h]
 have : ((x.toNat - 1) &&& s.toNat) ≤ x.toNat - 1 := Nat.and_le_left
 omega
theorem apv {x s z : AS} (hx : sub x s) (hz : sub z s) (h : z.toNat < x.toNat) : z.toNat ≤ ((x - 1) &&& s).toNat := by
 have h0 : x ≠ 0 := fun e => by subst e; exact absurd h (Nat.not_lt_zero _)
 rw [BitVec.toNat_and, y4 h0]
 exact aqi _ _ _ (aa9.1 hx) (aa9.1 hz) h
def b24 (s : AS) : List AS := ord (as9 s (s.toNat + 1) s)
theorem sub_self (s : AS) : sub s s := by rw [aa9, Nat.and_self]
theorem a4b {z s : AS} (h : sub z s) : z.toNat ≤ s.toNat := by rw [← aa9.1 h]; exact Nat.and_le_right
def aho (s : AS) : List AS := if 12 < bsz s then [] else b24 s
def b3i (s : AS) (y : List AS × AS) : Prop := sub y.2 s ∧ y.1.length + y.2.toNat ≤ s.toNat + 1 ∧ ∀ z, z ∈ y.1 ↔ sub z s ∧ y.2.toNat ≤ z.toNat
def nxt (x s : Nat) : Nat := if x = s then s + 1 else ((2 ^ 64 + x - s) &&& s)
def UpI (s : AS) (k : Nat) (y : List AS × Nat) : Prop :=
 (y.2 = s.toNat + 1 ∨ y.2 &&& s.toNat = y.2) ∧ y.1.length ≤ k * 4294967296 + y.2 ∧ t8 y.1 ∧ ∀ z, z ∈ y.1 ↔ sub z s ∧ (bsz z < k ∨ bsz z = k ∧ z.toNat < y.2)
def UpK (s : AS) (k : Nat) (l : List AS) : Prop := l.length ≤ k * 4294967296 ∧ t8 l ∧ ∀ z, z ∈ l ↔ sub z s ∧ bsz z < k
abbrev pU (n : Nat) : PC := .one (.raw (.int .u64 (n : Int)))
abbrev vU (n : Nat) : HR := c5 (.raw (.int .u64 (n : Int)))
theorem ank {x s : AS} (h : x ≠ 0) : ca .and .u32 (asI x - 1) (asI s) = asI ((x - 1) &&& s) := by rw [aae h, o8]
theorem aoz {α : Type} [Inhabited α] {wr wr' : Bool} {e : TypeId} {c : α → Nat → PV} {x : α} {f : Nat → Nat → PV} (h : CoP (f 0 0) (c x 0)) (hw : wr' = true → wr = true := by exact fun h => h) : CoO (.arr wr 1 e 1 f) (.arr wr' 1 e [x].length (lf c [x])) :=
 ⟨hw, rfl, rfl, rfl, fun i j hi hj => by
  have hi : i < 1 := hi
  have hj : j < 1 := hj
  obtain rfl : j = 0 := by omega
  obtain rfl : i = 0 := by omega
  exact h⟩
theorem f5 {n : Nat} (h : n < 4294967296) : (n : Int) = asI (BitVec.ofNat 32 n) := by
 unfold asI
 rw [BitVec.toNat_ofNat]
 omega
end Go.Hx
end
section
namespace Go.Hx
def b2m (l : List Fd) (p x : AS) : Bool := decide (clo l x &&& p ≠ x) && decide (clo l x &&& p ≠ p)
def asb (l : List Fd) (p : AS) : Option AS := (aho p).find? (b2m l p)
def b2h (l : List Fd) (p x : AS) : Fd := ⟨x, (clo l x &&& p) &&& ~~~x⟩
def aa1 (l : List Fd) (p : AS) : Fd := match asb l p with
 | some x => b2h l p x
 | none => ⟨0, 0⟩
def rt (l : List Fd) (p : AS) : Bool := (asb l p).isSome
theorem azp {α : Type} [Inhabited α] {q : α → Bool} {l : List α} {i : Nat} (hi : i < l.length) (hI : ∀ j, j < i → q (l.getD j default) = false) (h : q (l.getD i default) = true) : l.find? q = some (l.getD i default) := by
 rw [List.find?_eq_some_iff_getElem]
 refine ⟨h, i, hi, by simp [List.getD, hi], fun j hj => ?_⟩
 have := hI j hj
 rw [List.getD_eq_getElem?_getD, List.getElem?_eq_getElem (by omega), Option.getD_some] at this
 simp [this]
theorem ay7 {α : Type} [Inhabited α] {q : α → Bool} {l : List α} (hI : ∀ j, j < l.length → q (l.getD j default) = false) : l.find? q = none := by
 rw [List.find?_eq_none]
 intro x hx
 obtain ⟨j, hj, rfl⟩ := List.getElem_of_mem hx
 have := hI j hj
 rw [List.getD_eq_getElem?_getD, List.getElem?_eq_getElem hj, Option.getD_some] at this
 simp [this]
end Go.Hx
end
section
namespace Go.Hx
theorem u6 {id n m : Nat} (h : n = m) : CoR (.v (.one (.ref id n))) (.v (.one (.ref id m))) := by rw [h]; exact CoR.refl _
end Go.Hx
end
section
namespace Go.Hx
def ayr (l : List Fd) (p : AS) : Int := if av 16 l = 0 then (if 8 < bsz p then 3 else if p >>> 16 = 0 then 0 else 1) else av 16 l
def b44 (l : List Fd) (p : AS) : Fd := if ayr l p = 0 then aa1 l p else ⟨0, 0⟩
def b3n (l : List Fd) (p : AS) : Bool := decide (ayr l p = 0) && rt l p
def bcP (n : Int) (l : List Fd) (f : Fd) : Bool := decide (f.rhs &&& ~~~f.lhs ≠ 0) && decide (clo l f.lhs ≠ aq n)
def bcS (n : Int) (l : List Fd) : Bool := decide (av n l = 0) && !l.any (bcP n l)
def ahh (n : Int) (l : List Fd) : List AS := if a4a n l 8 = 0 then (aho (aq n)).filter fun s => !rt l s else []
end Go.Hx
end
section
namespace Go.Hx
def mz (l : List Fd) (p z : AS) : AS := (p &&& clo l (z &&& p)) &&& ~~~z
def gp (l : List Fd) (z p : AS) : Bool := decide (mz l p z ≠ 0)
def om (l : List Fd) (ps : List AS) : Nat → AS → AS
 | 0, z => z
 | n + 1, z => match ps.find? (gp l z) with
  | none => z
  | some p => om l ps n (z ||| mz l p z)
def k6 (l : List Fd) (ps : List AS) (z : AS) : AS := om l ps 4294967297 z
def jw (l : List Fd) (ps : List AS) (f : Fd) : Bool := decide (sub f.rhs (k6 l ps f.lhs))
theorem b0b (l : List Fd) (p z : AS) : ca .andNot .u32 (ca .and .u32 (asI p) (asI (clo l (z &&& p)))) (asI z) = asI (mz l p z) := by rw [o8, zp]; rfl
theorem aub {l : List Fd} {p z : AS} : (!decide (asI (mz l p z) = 0)) = gp l z p := by
 unfold gp
 rw [show (0 : Int) = asI 0 from rfl, a5j]
 simp
theorem b0p {z m : AS} (h : m &&& ~~~z = m) (h0 : m ≠ 0) : z.toNat < (z ||| m).toNat := by
 have hs : sub z (z ||| m) := az.2 fun i _ hi => by rw [BitVec.getLsbD_or, hi]; rfl
 have hle := a4b hs
 rcases Nat.lt_or_eq_of_le hle with h1 | h1
 · exact h1
 · exfalso
   apply h0
   have e : z = z ||| m := BitVec.eq_of_toNat_eq h1
   apply BitVec.eq_of_getLsbD_eq
   intro i hi
   have e1 := congrArg (fun s : AS => s.getLsbD i) e
   have e2 := congrArg (fun s : AS => s.getLsbD i) h
   simp only [BitVec.getLsbD_or, BitVec.getLsbD_and, BitVec.getLsbD_not] at e1 e2
   have e3 : (0 : AS).getLsbD i = false := by simp
   rw [e3]
   rw [decide_eq_true hi] at e2
   clear h h0 hs hle h1 e
   revert e1 e2
   cases z.getLsbD i <;> cases m.getLsbD i <;> simp
theorem abb {l : List Fd} {p z : AS} (h : gp l z p = true) : z.toNat < (z ||| mz l p z).toNat := by
 refine b0p ?_ (of_decide_eq_true h)
 unfold mz
 rw [BitVec.and_assoc, BitVec.and_self]
def a7y (l : List Fd) (ps : List AS) (z0 : AS) (x : Nat × List Nat × AS) : Prop := om l ps x.1 x.2.2 = k6 l ps z0 ∧ 4294967296 < x.1 + x.2.2.toNat ∧ x.2.1.length + x.1 = 4294967297
theorem anz (l : List Fd) (ps : List AS) (z0 : AS) : a7y l ps z0 (4294967297, [], z0) := by
 refine ⟨rfl, ?_, ?_⟩
 · dsimp only; omega
 · dsimp only; rw [List.length_nil]
theorem a7a {l : List Fd} {ps : List AS} {z0 : AS} {x : Nat × List Nat × AS} (h : a7y l ps z0 x) : 0 < x.1 := by
 have := h.2.1
 have := x.2.2.isLt
 omega
theorem at2 {l : List Fd} {ps : List AS} {z0 : AS} {x : Nat × List Nat × AS} (h : a7y l ps z0 x) (hi : idx (gp l x.2.2) ps < 0) : x.2.2 = k6 l ps z0 := by
 have hp := a7a h
 rw [← h.1]
 obtain ⟨n, hn⟩ : ∃ n, x.1 = n + 1 := ⟨x.1 - 1, by omega⟩
 rw [hn]
 unfold om
 have : ps.find? (gp l x.2.2) = none := by
  have hm : idx (gp l x.2.2) ps = -1 := by
   by_cases h : idx (gp l x.2.2) ps = -1
   · exact h
   · obtain ⟨i, h1, _⟩ := a2w h
     omega
  exact ay7 (ad7 hm)
 rw [this]
theorem ar8 {l : List Fd} {ps : List AS} {z0 : AS} {x : Nat × List Nat × AS} {i : Nat} (h : a7y l ps z0 x) (hi : i < ps.length) (hv : gp l x.2.2 (ps.getD i default) = true) (hj : ∀ j, j < i → gp l x.2.2 (ps.getD j default) = false) :
 a7y l ps z0 (x.1 - 1, x.2.1 ++ [i], x.2.2 ||| mz l (ps.getD i default) x.2.2) := by
 have hp := a7a h
 have hlt := abb hv
 obtain ⟨h1, h2, h3⟩ := h
 obtain ⟨n, hn⟩ : ∃ n, x.1 = n + 1 := ⟨x.1 - 1, by omega⟩
 refine ⟨?_, by dsimp only; omega, ?_⟩
 · rw [← h1, hn]
   have : ps.find? (gp l x.2.2) = some (ps.getD i default) := azp hi hj hv
   show om l ps n _ = _
   conv => rhs; unfold om
   rw [this]
 · dsimp only
   rw [List.length_append, List.length_singleton]
   omega
def m7 (l : List Fd) (ps : List AS) (i : Nat) : List Nat := (List.range i).filter fun j => !jw l ps (l.getD j default)
def fv (l : List Fd) (ps : List AS) : Bool := (List.range l.length).all fun j => jw l ps (l.getD j default)
theorem a1u {l : List Fd} {ps : List AS} {i : Nat} (h : jw l ps (l.getD i default) = false) : m7 l ps (i + 1) = m7 l ps i ++ [i] := by
 unfold m7
 rw [List.range_succ, List.filter_append]
 simp only [List.filter_cons, h, Bool.not_false, Bool.not_true, if_true, List.filter_nil, List.append_nil, Bool.false_eq_true, if_false]
theorem a1o {l : List Fd} {ps : List AS} {i : Nat} (h : jw l ps (l.getD i default) = true) : m7 l ps (i + 1) = m7 l ps i := by
 unfold m7
 rw [List.range_succ, List.filter_append]
 simp only [List.filter_cons, h, Bool.not_false, Bool.not_true, if_true, List.filter_nil, List.append_nil, Bool.false_eq_true, if_false]
theorem aj0 (l : List Fd) (ps : List AS) (i : Nat) : (m7 l ps i).length ≤ i := Nat.le_trans (List.length_filter_le _ _) (by rw [List.length_range]; exact Nat.le_refl _)
theorem aq3 {l : List Fd} {ps : List AS} : decide (((m7 l ps l.length).length : Int) = 0) = fv l ps := by
 unfold m7 fv
 rw [Bool.eq_iff_iff, decide_eq_true_iff, List.all_eq_true]
 constructor
 · intro h x hx
   have h0 : ((List.range l.length).filter fun j => !jw l ps (l.getD j default)) = [] := List.eq_nil_of_length_eq_zero (by omega)
   rw [List.filter_eq_nil_iff] at h0
   have := h0 x hx
   simpa using this
 · intro h
   rw [List.filter_eq_nil_iff.2 fun x hx => (by rw [h x hx]; decide)]
   rfl
theorem b0k {l : List Fd} {ps : List AS} {f : Fd} : decide (ca .andNot .u32 (asI f.rhs) (asI (k6 l ps f.lhs)) = 0) = jw l ps f := decide_eq_decide.2 fy
theorem atf (l : List Fd) : HV.clo 229 2 (fun i => [HV.p (bx (fdl l)), .ptr 1 0].getD i (.p .any)) = HV.clo 229 2 (fun i => ([HV.p (bx (fdl l)), .ptr 1000 0].getD i (.p .any)).ren (swp 1000 1)) :=
 congrArg (HV.clo 229 2) (funext fun i => match i with | 0 => rfl | 1 => rfl | n + 2 => rfl)
end Go.Hx
end
section
namespace Go.Hx
open Go.Proofs
set_option maxRecDepth 100000
set_option maxHeartbeats 1000000
theorem aey : goodFn Tryz.prog 230 := ⟨Tryz.f230, Tryz.func230, by kernel_rfl, by kernel_rfl⟩
theorem asf (l : List Fd) (p z : AS) : ah Tryz.prog 230 [pP (fdl l), pA p, pA z] (ap [pA (mz l p z)]) := by
 refine ag (nt := 16) af Tryz.func230 rfl rfl l9 ?_; refine sx7 ?_; refine qy ?_; refine a6 ?_; refine sx7 ?_; (iterate 5 refine qy ?_)
 refine rc rfl rfl rfl rfl rfl rfl mb (ot l (z &&& p)) (⟨CoC.refl _, cci (o8 _ _), trivial⟩) rfl rfl ?_; (iterate 4 refine qy ?_); refine a6 ?_
 exact hx8 rfl rfl rfl (⟨cci (b0b l p z), trivial⟩)
theorem auj : goodFn Tryz.prog 229 := ⟨Tryz.f229, Tryz.func229, by kernel_rfl, by kernel_rfl⟩
theorem b2b (x : AS) (l : List Fd) (z : AS) : ee Tryz.prog 229 [.one (.p (asC x)), .one (.p (bx (fdl l))), .one (.ptr 1000 0)] [(1000, .box [.p (asC z)])] (.v (.one (.p (.raw (.bool (gp l z x)))))) [(1000, .box [.p (asC z)])] [1000] := by
 refine gl (nt := 10) af Tryz.func229 rfl rfl l9 rfl ?_; refine sx7 ?_; refine qy ?_; refine a6 ?_; refine sx7 ?_; (iterate 3 refine qy ?_)
 refine rc rfl rfl rfl rfl rfl rfl aey (asf l x z) (CoL.refl _) rfl rfl ?_; (iterate 2 refine qy ?_); refine a6 ?_; refine am ?_; refine ⟨.inr rfl, ?_⟩
 exact ⟨_, _, rfl, (by (repeat' apply And.intro) <;> first | trivial | exact Nat.le_of_ble_eq_true rfl), cob aub, ⟨u9, trivial⟩⟩
theorem b2v (ps : List AS) (l : List Fd) (z : AS) : ee Tryz.prog 121 [.one (.p (asl ps)), .one (.clo 229 2 fun i => [HV.p (bx (fdl l)), .ptr 1000 0].getD i (.p .any))] [(1000, .box [.p (asC z)])] (.v (.one (.p (.raw (.int .i64 (idx (gp l z) ps)))))) [(1000, .box [.p (asC z)])] [1000] := by
 refine gl (nt := 19) af Tryz.func121 rfl rfl l9 rfl ?_; refine a7 ?_
 refine d1 0 rfl fun hn => ?_
 refine gy ?_; refine qy ?_; refine a6 ?_; refine dg (ι := Unit) ⟨[], [(1000, some _)]⟩ ⟨trivial, ⟨u9, trivial⟩⟩ (fun _i => ⟨[], []⟩) (fun _i => idx (gp l z) ps = -1) ?_ ?_
 ·
  refine sx7 ?_; (iterate 3 refine qy ?_); refine a6 ?_; refine ae ?_
  refine ai (ι := Nat) ⟨[(0, some _), (1, some _), (7, some _)], [(1000, some _)]⟩ ⟨⟨c9, c9, c9, trivial⟩, ⟨u9, trivial⟩⟩ (fun i => ⟨[(8, some (vI i))], []⟩) (fun i => i ≤ ps.length ∧ (∀ j, j < i → gp l z (ps.getD j default) = false)) (fun i => ps.length - i) (0) (⟨Nat.zero_le _, bu⟩) ⟨⟨zy, trivial⟩, trivial⟩ ?_
  rintro i ⟨hi, hI⟩
  refine sx7 ?_; refine qy ?_; refine a6 ?_; refine a7 ?_; refine a8 _ rfl (fun r0 => ?_) (fun r0 => ?_)
  ·
   have h0 := of_decide_eq_true r0
   try simp only [ty] at h0
   refine aa ?_; refine a7 ?_; refine ae ?_; refine sx7 ?_; (iterate 2 refine qy ?_); refine a6 ?_; refine sx7 ?_; (iterate 5 refine qy ?_)
   refine cz rfl rfl rfl rfl rfl rfl auj (b2b (ps.getD i default) l z) (fk.refl _) ⟨u9, trivial⟩ rfl rfl ?_; refine a6 ?_; refine a8 _ rfl (fun r1 => ?_) (fun r1 => ?_)
   ·
    have h1 := r1
    refine sx7 ?_; (iterate 2 refine qy ?_); refine a6 ?_; refine am ?_; refine ⟨.inr rfl, ?_⟩
    exact ⟨_, _, rfl, (by (repeat' apply And.intro) <;> first | trivial | exact Nat.le_of_ble_eq_true rfl), coi (xh (i := i) (by omega) hI h1).symm, ⟨u9, trivial⟩⟩
   ·
    have h1 := r1
    refine aa ?_; refine gy ?_; (iterate 2 refine qy ?_); refine a6 ?_; refine ⟨i + 1, ?_, ?_, ?_⟩
    · exact ⟨by show i + 1 ≤ _; omega, bf hI (h1)⟩
    · first | omega | (dsimp only; omega)
    · exact ⟨⟨zy, c9, c9, c9, trivial⟩, ⟨u9, trivial⟩⟩
  ·
   have h0 := of_decide_eq_false r0
   try simp only [ty] at h0
   refine ak ?_; refine ⟨(), ?_, ?_⟩
   · exact xx fun j hj => hI j (by omega)
   · exact ⟨trivial, ⟨u9, trivial⟩⟩
 · rintro _ hj
   refine sx7 ?_; refine qy ?_; refine a6 ?_; refine am ?_; refine ⟨.inr rfl, ?_⟩
   exact ⟨_, _, rfl, (by (repeat' apply And.intro) <;> first | trivial | exact Nat.le_of_ble_eq_true rfl), coi hj.symm, ⟨u9, trivial⟩⟩
theorem atl : goodFn Tryz.prog 208 := ⟨Tryz.f208, Tryz.func208, by kernel_rfl, by kernel_rfl⟩
theorem atq (l : List Fd) (ps : List AS) (z0 : AS) : ah Tryz.prog 208 [pP (fdl l), pP (asl ps), pA z0] (ap [pA (k6 l ps z0), pP .any]) := by
 refine ag (nt := 30) af Tryz.func208 rfl rfl l9 ?_; refine sx7 ?_; refine m9 0 ?_; refine m9 1 ?_; (iterate 2 refine qy ?_); refine a6 ?_; refine sx7 ?_; refine qy ?_; refine a6 ?_; refine ae ?_
 refine kw 3 rfl rfl rfl ?_; refine dp 8 900 true 1 3 (lf iC []) (by decide) rfl (CoP.sl rfl (.inr rfl) (fun h => h) (fun i j hi _ => absurd hi (Nat.not_lt_zero i))) (.inr rfl) rfl ?_
 refine ai (ι := Nat × List Nat × AS) ⟨[(1, some _), (3, some _), (5, some _)], []⟩ ⟨⟨c9, c9, c9, trivial⟩, trivial⟩ (fun x => ⟨[(8, some (.v (.one (.ref 900 x.2.1.length))))], [(900, some (.arr true 1 3 x.2.1.length (lf iC x.2.1))), (1, some (.box [.p (asC x.2.2)]))]⟩) (fun x => a7y l ps z0 x) (fun x => x.1) ((4294967297, [], z0)) (anz l ps z0) ⟨⟨zy, trivial⟩, ⟨u9, u9, trivial⟩⟩ ?_
 rintro x hx
 have hlen := hx.2.2
 have hpos := a7a hx
 refine ae ?_; refine sx7 ?_; (iterate 2 refine qy ?_); refine cz rfl rfl rfl rfl rfl rfl a6y ((b2v ps l x.2.2).swap 1000 1) (⟨CoP.refl _, atf l, trivial⟩) ⟨u9, trivial⟩ rfl rfl ?_; refine qy ?_
 refine a6 ?_; refine a7 ?_; refine sx7 ?_; (iterate 2 refine qy ?_); refine a6 ?_; refine a8 _ rfl (fun r0 => ?_) (fun r0 => ?_)
 ·
  have h0 := of_decide_eq_true r0
  try simp only [ty] at h0
  refine a7 ?_; refine br 8 rfl rfl rfl ?_; refine gy ?_; (iterate 4 refine qy ?_); refine a6 ?_
  exact hx8 rfl rfl rfl (⟨cci (congrArg asI (at2 hx (by omega))), CoC.one (CoP.any_of), trivial⟩)
 ·
  have h0 := of_decide_eq_false r0
  try simp only [ty] at h0
  obtain ⟨i0, hi0, hi1, hi2, hi3⟩ := a2w (p := gp l x.2.2) (l := ps) (by omega)
  refine aa ?_; refine a7 ?_; refine b7 (E := bm) af ar [0, 1, 2, 3, 4, 5, 6, 7, 8, 9] ?_; (iterate 7 refine qy ?_)
  refine rc rfl rfl rfl rfl rfl rfl aey (asf l (ps.getD i0 default) x.2.2) (⟨CoC.refl _, CoC.one (CoP.of_eq (by rw [hi0]; rfl)), CoC.refl _, trivial⟩) rfl rfl ?_; refine qy ?_; refine s9 ?_; refine a6 ?_
  refine ⟨by kernel_rfl, ?_⟩; refine gy ?_; (iterate 2 refine qy ?_); refine m9 2 ?_; refine ra 3 true rfl rfl rfl rfl rfl rfl ?_; refine qy ?_; refine a6 ?_
  refine ⟨(x.1 - 1, x.2.1 ++ [i0], x.2.2 ||| mz l (ps.getD i0 default) x.2.2), ?_, ?_, ?_⟩
  · exact ar8 hx hi1 hi2 hi3
  · dsimp only
    omega
  · exact ⟨⟨⟨_, rfl, (dc rfl)⟩, c9, c9, c9, trivial⟩, ⟨⟨_, rfl, (ew rfl (CoP.of_eq (congrArg (fun z => PV.raw (.int .i64 z)) hi0)))⟩, ⟨_, rfl, ⟨CoP.of_eq (congrArg (fun z => PV.raw (.int .u32 z)) (bOr _ _)), trivial⟩⟩, trivial⟩⟩
theorem avz : goodFn Tryz.prog 166 := ⟨Tryz.f166, Tryz.func166, by kernel_rfl, by kernel_rfl⟩
theorem b0q (l : List Fd) (ps : List AS) (z : AS) : ah Tryz.prog 166 [pP (fdl l), pP (asl ps), pA z] (ap [pA (k6 l ps z)]) := by
 refine ag (nt := 17) af Tryz.func166 rfl rfl l9 ?_; refine sx7 ?_; refine qy ?_; refine a6 ?_; refine sx7 ?_; (iterate 3 refine qy ?_)
 refine rc rfl rfl rfl rfl rfl rfl atl (atq l ps z) (CoL.refl _) rfl rfl ?_; (iterate 5 refine qy ?_); refine a6 ?_; refine sx7 ?_; (iterate 2 refine qy ?_); refine a6 ?_
 exact hx8 rfl rfl rfl (CoL.refl _)
theorem au0 : goodFn Tryz.prog 118 := ⟨Tryz.f118, Tryz.func118, by kernel_rfl, by kernel_rfl⟩
theorem b26 (l : List Fd) (ps : List AS) (x : Fd) : ah Tryz.prog 118 [pP (fdl l), pP (asl ps), x.pc] (ap [pB (jw l ps x)]) := by
 refine ag (nt := 16) af Tryz.func118 rfl rfl l9 ?_; refine sx7 ?_; refine m9 0 ?_; refine qy ?_; refine a6 ?_; refine a7 ?_; refine b7 (E := bm) af ar [0, 1, 2, 3, 4, 5, 6, 7, 8, 9] ?_
 (iterate 6 refine qy ?_); refine rc rfl rfl rfl rfl rfl rfl avz (b0q l ps x.lhs) (CoL.refl _) rfl rfl ?_; (iterate 3 refine qy ?_); refine a6 ?_; refine ⟨by kernel_rfl, ?_⟩
 exact hx8 rfl rfl rfl (⟨ccb b0k, trivial⟩)
theorem aup : goodFn Tryz.prog 124 := ⟨Tryz.f124, Tryz.func124, by kernel_rfl, by kernel_rfl⟩
theorem b27 (l : List Fd) (ps : List AS) (hl : l.length ≤ 16777216) : ah Tryz.prog 124 [pP (fdl l), pP (asl ps)] (ap [pP (il (m7 l ps l.length))]) := by
 refine ag (nt := 26) af Tryz.func124 rfl rfl l9 ?_; refine sx7 ?_; refine qy ?_; refine a6 ?_; refine sx7 ?_; refine qy ?_; refine a6 ?_; (iterate 2 refine a7 ?_)
 refine d1 0 rfl fun hn => ?_
 refine gy ?_; (iterate 3 refine qy ?_); refine a6 ?_; refine ae ?_
 refine dp 5 900 true 1 3 (lf iC []) (by decide) rfl (CoP.sl rfl (.inr rfl) (fun h => h) (fun i j hi _ => absurd hi (Nat.not_lt_zero i))) (.inr rfl) rfl ?_
 refine ai (ι := Nat) ⟨[(0, some _), (1, some _), (8, some _), (9, some _)], []⟩ ⟨⟨c9, c9, c9, c9, trivial⟩, trivial⟩ (fun i => ⟨[(5, some (.v (.one (.ref 900 (m7 l ps i).length)))), (10, some (vI i))], [(900, some (.arr true 1 3 (m7 l ps i).length (lf iC (m7 l ps i))))]⟩) (fun i => i ≤ l.length) (fun i => l.length - i) (0) (Nat.zero_le _) ⟨⟨zy, zy, trivial⟩, ⟨u9, trivial⟩⟩ ?_
 rintro i hi
 have hlen := aj0 l ps i
 refine sx7 ?_; refine qy ?_; refine a6 ?_; refine a7 ?_; refine a8 _ rfl (fun r0 => ?_) (fun r0 => ?_)
 ·
  have h0 := of_decide_eq_true r0
  try simp only [ty] at h0
  refine aa ?_; refine a7 ?_; refine ae ?_; refine sx7 ?_; (iterate 3 refine qy ?_); refine m9 0 ?_; refine qy ?_; refine s9 ?_; refine a6 ?_; refine sx7 ?_; (iterate 3 refine qy ?_)
  refine rc rfl rfl rfl rfl rfl rfl au0 (b26 l ps (l.getD i default)) (CoL.refl _) rfl rfl ?_; refine qy ?_; refine a6 ?_; refine a8 _ rfl (fun r1 => ?_) (fun r1 => ?_)
  ·
   have h1 := r1
   have h1 := ax h1
   have hq := ax r1
   refine gy ?_; (iterate 2 refine qy ?_); refine m9 1 ?_; refine ra 2 true rfl rfl rfl rfl rfl rfl ?_; refine qy ?_; refine a6 ?_; refine gy ?_; (iterate 2 refine qy ?_); refine a6 ?_
   first | (refine ⟨i + 1, ?_, ?_, ?_⟩
            · show i + 1 ≤ _; omega
            · first | omega | (dsimp only; omega)
            · exact ⟨⟨⟨_, rfl, (dc (a1u (by assumption)))⟩, zy, c9, c9, c9, c9, trivial⟩, ⟨⟨_, rfl, (ew (a1u (by assumption)) (CoP.refl _))⟩, trivial⟩⟩)
         | (refine ⟨i + 1, ?_, ?_, ?_⟩
            · show i + 1 ≤ _; omega
            · first | omega | (dsimp only; omega)
            · exact ⟨⟨⟨_, rfl, (fu (a1o (by assumption)))⟩, zy, c9, c9, c9, c9, trivial⟩, ⟨⟨_, rfl, (dy (a1o (by assumption)))⟩, trivial⟩⟩)
  ·
   have h1 := r1
   have h1 := aw h1
   have hq := aw r1
   refine aa ?_; refine gy ?_; (iterate 2 refine qy ?_); refine a6 ?_
   first | (refine ⟨i + 1, ?_, ?_, ?_⟩
            · show i + 1 ≤ _; omega
            · first | omega | (dsimp only; omega)
            · exact ⟨⟨⟨_, rfl, (dc (a1u (by assumption)))⟩, zy, c9, c9, c9, c9, trivial⟩, ⟨⟨_, rfl, (ew (a1u (by assumption)) (CoP.refl _))⟩, trivial⟩⟩)
         | (refine ⟨i + 1, ?_, ?_, ?_⟩
            · show i + 1 ≤ _; omega
            · first | omega | (dsimp only; omega)
            · exact ⟨⟨⟨_, rfl, (fu (a1o (by assumption)))⟩, zy, c9, c9, c9, c9, trivial⟩, ⟨⟨_, rfl, (dy (a1o (by assumption)))⟩, trivial⟩⟩)
 ·
  have h0 := of_decide_eq_false r0
  try simp only [ty] at h0
  obtain rfl : i = l.length := by omega
  refine ak ?_; refine sx7 ?_; (iterate 2 refine qy ?_); refine a6 ?_; refine br 4 rfl rfl rfl ?_
  exact hx8 rfl rfl rfl (⟨CoC.one (CoP.refl _), trivial⟩)
theorem axy : goodFn Tryz.prog 69 := ⟨Tryz.f69, Tryz.func69, by kernel_rfl, by kernel_rfl⟩
theorem b2q (l : List Fd) (ps : List AS) (hl : l.length ≤ 16777216) : ah Tryz.prog 69 [pP (fdl l), pP (asl ps)] (ap [pB (fv l ps)]) := by
 refine ag (nt := 10) af Tryz.func69 rfl rfl l9 ?_; refine sx7 ?_; refine qy ?_; refine a6 ?_; refine sx7 ?_; (iterate 2 refine qy ?_); refine rc rfl rfl rfl rfl rfl rfl aup (b27 l ps hl) (CoL.refl _) rfl rfl ?_
 (iterate 3 refine qy ?_); refine a6 ?_
 exact hx8 rfl rfl rfl (⟨ccb aq3, trivial⟩)
end Go.Hx
end
section
namespace Go.Hx
open Go.RowKit
def b3l (P : Program) (g : FuncId) (caps : List PC) (n : Nat) (xs : Nat → List PC) : Prop :=
 ∀ (imm : Imm) (_ : oo imm) (us : List Value) (W : World) (l : Nat) (J : Nat → World → Prop), cq imm caps us →
  (∀ i A, J i A → ∀ b ob, imm b = some ob → A.heap[b]? = some ob) →
  (∀ i A A', J i A → Below A.heap.size A A' → J i A') →
  (∀ i A vs, i < n → J i A → cq imm (xs i) vs → YieldAt (rf none) 0 P l vs.toArray A fun e A' => e = .returned (.bool true) ∧ J (i + 1) A') →
  J 0 W → CallsIn (rf none) 0 P g (#[.func (.yield l) #[] #[]] ++ us.toArray) W fun e W' => (∃ v, e = .returned v) ∧ J n W'
section
variable {P : Program} {nt : Nat} {c : Ctx} {s : S} {a : Act} {w w0 : World}
end
def b09 (r : Nat → Nat) : List (Nat × Option HR) → List (Nat × Option HR)
 | [] => []
 | (d, some x) :: l => (d, some (x.ren r)) :: b09 r l
 | (d, none) :: l => (d, none) :: b09 r l
def rgB (r : Nat → Nat) (T : List (Nat × Option HR)) (o1 o2 : List (Nat × aj)) (fx : List Nat) : Bool :=
 (fx.all fun id => Nat.ble 1000 (r id)) && ((d2 o2).all fun id => (po fx id && po (d2 o1) id) || (Nat.blt id 1000 && nmT id T)) && (a65 o2).all (po (d2 o2))
def b3q (P : Program) (nt l : Nat) (body : Code) (Q : HSt → Prop) (e : Exit) (st : HSt) : Prop := e = .normal ∧ HW (ro := some l) P nt body st fun e st => e = .normal ∧ Q st
section
variable {P : Program} {E : Env} {nt : Nat} {ops : Array Oper} {i : Nat} {o : Oper} {Q : Exit → Act → World → Prop} {a : Act} {A : World} {imm : Imm}
def ayb (d : Option Tmp) (x : HR) (t : List (Nat × Option HR)) : List (Nat × Option HR) := match d with | some d => (d, some x) :: t | none => t
class TabC (imm : Imm) : Prop where
 ok : oo imm
def cI (imm : Imm) (A : World) [ht : TabC imm] : Ctx := { old := (imm, fe A, (fun _ => undef), (fun _ => none), fun _ _ => undef), imm := imm, tab := ht.ok, own := fun _ => undef, blk := fun _ => noB, rows := fun _ _ => undef }
variable [TabC imm]
structure It (imm : Imm) [TabC imm] (nt : Nat) (t : List (Nat × Option HR)) (a : Act) (A : World) : Prop where
 defers : a.defers = []
 rel : au A nt (cI imm A) ⟨c6 t, fun _ => none⟩ a A
theorem It.sub {t t' : List (Nat × Option HR)} (h : It imm nt t a A) (hs : ze t' t) : It imm nt t' a A :=
 ⟨h.defers, h.rel.relax ⟨c6 t', fun _ => none⟩ (fun d x hx => uj hs d x hx) (fun id ob ho => by cases ho)⟩
theorem It.move {t : List (Nat × Option HR)} {A' : World} (h : It imm nt t a A) (hi : ∀ b ob, imm b = some ob → A'.heap[b]? = some ob) : It imm nt t a A' := by
 refine ⟨h.defers, by rw [h.defers]; exact oj.nil _ _ _ _, h.rel.size, Below.refl _ _, fun d x hx => ?_, (fun id ob ho => by cases ho), (fun i i' ob ob' b ho => by cases ho), hi, (fun id ob b ho => by cases ho), fun b _ => rfl, fun b ob hb => hb, (fun id ob b ho => by cases ho), fun id _ => .inl rfl⟩
 exact ay.evo (c := cI imm A) (o := fun _ => none) (Imm.le.refl imm) (fun _ _ => .inl rfl) (h.rel.tmps d x hx)
theorem It.put {t : List (Nat × Option HR)} (h : It imm nt t a A) {d : Option Tmp} (hd : dl nt d = true) (x : HR) (v : Value) (hx : ay (cI imm A) (fun _ => none) x v) : It imm nt (ayb d x t) (a.put d v) A := by
 cases d with
 | none => exact h
 | some d =>
  have := h.rel.put d (of_decide_eq_true hd) (some x) v (fun y hy => by cases hy; exact hx)
  refine ⟨h.defers, ?_⟩
  have e : (S.put ⟨c6 t, fun _ => none⟩ d (some x)) = ⟨c6 ((d, some x) :: t), fun _ => none⟩ := by
   unfold S.put
   simp [bw]
  rw [e] at this
  exact this
theorem aus {t : List (Nat × Option HR)} (h : It imm nt t a A) {x : Operand} {r : HR} (hx : ev ⟨c6 t, fun _ => none⟩ x = some r) : ay (cI imm A) (fun _ => none) r (a.eval x) := al h.rel hx
theorem iy {t : List (Nat × Option HR)} {L : List Nat} {cl : Call} {f : Operand} {l : Nat} {R : World → Prop} (h : It imm nt t a A) (hi : ops[i]? = some o) (hw : bd ops ⟨c6 t, fun _ => none⟩ o = some true) (hd : dl nt o.dst = true) (ho : o.op = .call cl) (hcl : cl.callee = .value f) (hf : ev ⟨c6 t, fun _ => none⟩ f = some (c5 (.raw (.func (.yield l) #[] #[]))))
 (hy : YieldAt (rf none) 0 P l (cl.args.toList.map a.eval).toArray A fun e A' => e = .returned (.bool true) ∧ R A') (him : ∀ A', R A' → ∀ b ob, imm b = some ob → A'.heap[b]? = some ob)
 (hK : ∀ a' A', R A' → It imm nt (ayb o.dst (c5 (.raw (.bool true))) t) a' A' → wpOpsIn (rf none) 0 P ops Q L a' A') : wpOpsIn (rf none) 0 P ops Q (i :: L) a A := by
 rw [wpOpsIn_cons]
 unfold wpOpIn
 simp only [hi]
 rw [if_pos (f4 h.rel hw)]
 obtain ⟨fn, tmps, assign, body, hyr, hround⟩ := hy
 have hfe : a.eval f = .func (.yield l) #[] #[] := (aus h hf).1
 refine ⟨fun _ _ => trivial, ?_⟩
 have hsem : Oper.semAt (rf none).round a.eval o = execOp a.eval o := rfl
 rw [hsem]
 have hma : (cl.args.toList.map a.eval).toArray = cl.args.map a.eval := by apply Array.toList_inj.1; rw [Array.toList_map]
 rw [hma] at hyr
 have hrun : (execOp a.eval o).run P A = .ok (.round l fn tmps assign body) A := by
  simp only [execOp, ho, resolve, hcl, hfe, Sem.run_bind, Deferred.ofValue, Sem.run_pure, Result.andThen_ok, invoke]
  simpa using hyr
 rw [hrun, Oper.uponIn_round]
 refine ⟨fun hh => absurd hh (by simp [rf]), hround.mono ?_⟩
 rintro e A' ⟨rfl, hR⟩
 exact hK _ A' hR ((h.move (him A' hR)).put hd (c5 (.raw (.bool true))) (.bool true) ⟨rfl, rfl⟩)
end
theorem CoP.vp {k k' : Nat} {f f' : Nat → PV} (hk : k' = k) (hf : ∀ j, j < k → CoP (f j) (f' j)) : CoP (.vp k f) (.vp k' f') := by
 subst hk
 rintro m u ⟨b, off, rfl, h⟩
 exact ⟨b, off, rfl, fun j hj => by
  obtain ⟨x, hx, hr⟩ := h j hj
  exact ⟨x, hx, hf j hj m x hr⟩⟩
theorem CoP.fn {g : FuncId} {k k' : Nat} {f f' : Nat → PV} (hk : k' = k) (hf : ∀ j, j < k → CoP (f j) (f' j)) : CoP (.fn g k f) (.fn g k' f') := by
 subst hk
 rintro m u ⟨cs, rfl, hl, h⟩
 exact ⟨cs, rfl, hl, fun j hj => by
  obtain ⟨x, hx, hr⟩ := h j hj
  exact ⟨x, hx, hf j hj m x hr⟩⟩
def RN (P : Program) (nt : Nat) (ops : Array Oper) (L : List Nat) (st : HSt) (Q : HSt → Prop) : Prop :=
 ∀ (ro : Option Nat) (n : Nat) w0 m0 a w (QQ : Exit → Act → World → Prop), Rel w0 m0 nt st.den a w → (∀ st' a' w', Q st' → Rel w0 m0 nt st'.den a' w' → QQ .normal a' w') → wpOpsIn (rf ro) n P ops QQ L a w
section
variable {P : Program} {E : Env} {nt : Nat} {ops : Array Oper} {st : HSt}
theorem a2o (hE : ce P E) {ro : Option Nat} {n : Nat} {w0 : World} {m0 : Old} {sf : S} {L2 : List Nat} {QQ : Exit → Act → World → Prop} (hQ : ∀ a' w', Rel w0 m0 nt sf a' w' → wpOpsIn (rf ro) n P ops QQ L2 a' w') :
 ∀ (T : List Tr) (s : S) (a : Act) (w : World), jt P E nt ops T s sf → Rel w0 m0 nt s a w → wpOpsIn (rf ro) n P ops QQ (T.map (·.i) ++ L2) a w
 | [], s, a, w, hT, hr => by
  cases hT
  exact hQ _ _ hr
 | t :: T, s, a, w, hT, hr => by
  cases hT with
  | cons hi he hR hO hF hrest =>
  rw [List.map_cons, List.cons_append, wpOpsIn_cons]
  exact a09 hE he hr hi fun a' w' hr' => a2o hE hQ T _ a' w' hrest hr'
theorem an6 (hE : ce P E) {L1 L2 : List Nat} {Q : HSt → Prop} (h : Reg P E nt ops L1 st fun _ sf => RN P nt ops L2 sf Q) : RN P nt ops (L1 ++ L2) st Q := fun ro n w0 m0 a w QQ hr hQ => by
 obtain ⟨T, sf, hl, hT, h⟩ := h
 rw [← hl]
 exact a2o hE (fun a' w' hr' => h ro n w0 m0 a' w' QQ hr' hQ) T _ a w hT hr
theorem azk {Q : HSt → Prop} (h : Q st) : RN P nt ops [] st Q := fun ro n w0 m0 a w QQ hr hQ => hQ st a w h hr
theorem b0u {L : List Nat} {Q : HSt → Prop} (h : HE nt st fun st' => RN P nt ops L st' Q) : RN P nt ops L st Q := fun ro n w0 m0 a w QQ hr hQ => by
 obtain ⟨st', h1, h2⟩ := h w0 m0 a w hr
 exact h1 ro n w0 m0 a w QQ h2 hQ
theorem ags {ro : Option Nat} {Q : Exit → HSt → Prop} {id : Nat} (L1 L2 : List Nat) (hl : List.range ops.size = L1 ++ L2) (h : RN P nt ops (L1 ++ L2) st (Q .normal)) : HW (ro := ro) P nt (.region id ops false) st Q := fun w0 m0 a w hr => by
 refine wpIn_region ?_
 rw [hl]
 exact h ro 0 w0 m0 a w _ hr fun st' a' w' hq hr' => ⟨st', hq, hr'⟩
theorem azv {Q : HSt → Prop} (st1 : HSt) (d : Nat) (x : HR) (hs : ∀ w0 m0 a w, Rel w0 m0 nt st.den a w → ∃ cc, cc.old = m0 ∧ au w0 nt cc st1.den a w ∧ ay cc st1.den.o x (a.tmps.getD d undef))
 (h : HE nt ⟨(d, some x) :: st1.t, st1.o⟩ Q) : HE nt st Q := fun w0 m0 a w hr => by
 obtain ⟨cc, hold, hrr, hx⟩ := hs w0 m0 a w hr
 refine h w0 m0 a w ⟨cc, hold, hrr.defers, hrr.size, hrr.below, fun k y hy => ?_, hrr.objs, hrr.inj, hrr.imm, hrr.sep, hrr.was, hrr.frm, hrr.fsep, hrr.fixed⟩
 simp only [HSt.den] at hy
 rw [bw] at hy
 dsimp only at hy
 split at hy
 · rename_i hk
   subst hk
   simp only [Option.some.injEq] at hy
   subst hy
   exact hx
 · exact hrr.tmps k y hy
theorem amq {Q : HSt → Prop} (d : Nat) {id n n' s : Nat} {wr : Bool} {e : TypeId} {f : Nat → Nat → PV} (hd : c6 st.t d = some (.v (.one (.ref id n)))) (ho : c6 st.o id = some (.arr wr s e n' f)) (hn : n' = n)
 (h : HE nt ⟨(d, some (c5 (.sl n s false f))) :: st.t, (id, none) :: st.o⟩ Q) : HE nt st Q := by
 subst hn
 refine azv ⟨st.t, (id, none) :: st.o⟩ d (c5 (.sl n' s false f)) (fun w0 m0 a w hr => ?_) h
 obtain ⟨cc, hold, hrr⟩ := hr
 refine ⟨_, ?_, by rw [yo]; exact hrr.freeze ho, ?_⟩
 · exact hold
 · obtain ⟨_, _, h3⟩ := hrr.tmps d _ hd
   have := (h3 _ _ _ _ ho rfl).2 rfl
   rw [this]
   exact x6 hrr ho
end
end Go.Hx
end
