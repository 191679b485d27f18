/- A part of the proof: Cz1m Cs37 Cs40 Ls2 Ls3 Ls5 W0 W1 Ls6 W2a Rbm Bz1 Bz2 Bz3. -/
import Derived.Test.YtidophngianjiaaGreatDoor5x16
import Derived.Test.YtidophngianjiaaGreatDoor5x19
import Derived.Test.YtidophngianjiaaGreatDoor5x20
import Derived.Test.YtidophngianjiaaGreatDoor5x21
import Derived.Test.YtidophngianjiaaGreatDoor5x22
import Derived.Test.YtidophngianjiaaGreatDoor5x27
set_option linter.all false
section
namespace Go.Hx
def asf (l : List Fd) (ps : List AS) (t : AS) : Prop := ∀ p ∈ ps, sub (clo l (t &&& p) &&& p) t
def apq (l : List Fd) (s p : AS) : AS := s ||| (clo l (s &&& p) &&& p)
def aru (l : List Fd) (ps : List AS) (s : AS) : AS := ps.foldl (apq l) s
def PrI (l : List Fd) (ps : List AS) (z s : AS) : Prop := sub z s ∧ sub s (agl l ps z)
def asr (n : Int) (l : List Fd) (i : Nat) : List AS := ((cw (ay n)).take i).filter fun s => !mq l s
end Go.Hx
end
section
namespace Go.Hx
def arw (l : List Fd) : Prop := ∀ f ∈ l, ∀ i, i < 32 → f.rhs.getLsbD i = true → f.lhs.getLsbD i = false
section
variable {n : Int} {l : List Fd}
end
end Go.Hx
end
section
namespace Go.Hx
open Go.Proofs
theorem a8g {ps : List AS} {k : AS} (h : k ∈ ps) : sub k (orL ps) := c5.2 fun i hi hb => by
 unfold orL
 rw [a8y, Bool.or_eq_true]
 exact .inr (List.any_eq_true.2 ⟨k, h, hb⟩)
section
variable {n : Int} {l : List Fd}
end
end Go.Hx
end
section
namespace Go.Hx
def ags (E : Int → Int → Prop) (R : Rw → Prop) (s : AS) : Prop := ∃ r, R r ∧ ∀ i : Nat, i < r.length → dm s (i : Int) = true → E (r.getD i default) (i : Int)
section
variable {N : Nat} {p m : List Fd} {E : Int → Int → Prop} {R : Rw → Prop}
theorem af3 {s t : AS} (h : sub s t) {i : Nat} (hi : dm s (i : Int) = true) : dm t (i : Int) = true := by
 by_cases hl : i < 32
 · rw [sh hl] at hi ⊢
   exact c5.1 h i hl hi
 · rw [anr (by omega)] at hi
   cases hi
theorem ags.mono {s t : AS} (h : ags E R t) (hs : sub s t) : ags E R s := by
 obtain ⟨r, h1, h2⟩ := h
 exact ⟨r, h1, fun i hi hh => h2 i hi (af3 hs hh)⟩
end
section
variable {n : Int} {p m : List Fd} {ps : List AS}
end
end Go.Hx
end
section
namespace Go.Hx
def lvE (n : Int) (ps : List AS) : Int := if n < 0 ∨ 8 < n then 7 else if 64 < ps.length then 3 else if ps.length = 0 ∨ ¬ orL ps = ay n then 1 else 0
section
variable {n : Int} {ps : List AS} {p m : List Fd}
theorem aiu (h : n < 0 ∨ 8 < n) : lvE n ps = 7 := if_pos h
theorem ap9 (h : ¬ (n < 0 ∨ 8 < n)) (h2 : 64 < ps.length) : lvE n ps = 3 := by unfold lvE; rw [if_neg h, if_pos h2]
theorem aiv (h : ¬ (n < 0 ∨ 8 < n)) (h2 : ¬ 64 < ps.length) (h3 : ps.length = 0 ∨ ¬ orL ps = ay n) : lvE n ps = 1 := by unfold lvE; rw [if_neg h, if_neg h2, if_pos h3]
theorem api (h : ¬ (n < 0 ∨ 8 < n)) (h2 : ¬ 64 < ps.length) (h3 : ¬ (ps.length = 0 ∨ ¬ orL ps = ay n)) : lvE n ps = 0 := by unfold lvE; rw [if_neg h, if_neg h2, if_neg h3]
theorem qp (h : lvE n ps = 0) : 0 ≤ n ∧ n ≤ 8 ∧ ps.length ≤ 64 ∧ 0 < ps.length ∧ orL ps = ay n := by
 unfold lvE at h
 split at h
 · exact absurd h (by decide)
 · split at h
   · exact absurd h (by decide)
   · split at h
     · exact absurd h (by decide)
     · rename_i h1 h2 h3
       refine ⟨by omega, by omega, by omega, by omega, ?_⟩
       apply Classical.byContradiction
       intro e
       exact h3 (.inr e)
def lsT (n : Int) (ps : List AS) (p m : List Fd) : List St × (Int × List Rw) × Int := jp FU n (c4 (df n ps)) p m
def lsC (n : Int) (ps : List AS) (p m : List Fd) : Int := if lvE n ps = 0 then (if cj n p m = 0 then (lsT n ps p m).2.2 else cj n p m) else lvE n ps
def lsB (n : Int) (ps : List AS) (p m : List Fd) : Bool := decide (lsC n ps p m = 0) && (lsT n ps p m).2.1.2.any fun r => decide (r = fg n)
theorem zx (h : lsC n ps p m = 0) : lvE n ps = 0 ∧ cj n p m = 0 := by
 unfold lsC at h
 split at h
 · rename_i e
   split at h
   · rename_i e2; exact ⟨e, e2⟩
   · rename_i e2; exact absurd h e2
 · rename_i e; exact absurd h e
theorem aoy (h : lvE n ps = 0) {q : AS} (hq : q ∈ ps) : sub q (ay n) := by
 rw [← (qp h).2.2.2.2]
 exact a8g hq
theorem agn (h : lvE n ps = 0) : dv n ps = (n, c4 (df n ps), 0) := by
 obtain ⟨h0, h8, h64, _⟩ := qp h
 exact a5n (by omega) (by omega) fun j hj => (aqe h0 (by omega)).1 (aoy h (dg hj))
def atf (n : Int) (p : List Fd) (ps : List AS) : Bool := lsB n ps p [] && !ps.any (mq p)
end
end Go.Hx
end
section
namespace Go.Hx
abbrev tbC (a : Int × List Rw) : Nat → PV := fun j => [.raw (.int .i64 a.1), rl a.2].getD j .any
def lcR (n : Int) (ps : List AS) (p m : List Fd) : (Int × List Rw) × List St × (Int × List Rw) × Int :=
 if lvE n ps = 0 then (if cj n p m = 0 then ((n, c4 (df n ps)), (lsT n ps p m).1, (lsT n ps p m).2.1, (lsT n ps p m).2.2) else ((0, []), [], (0, []), cj n p m)) else ((0, []), [], (0, []), lvE n ps)
section
variable {n : Int} {ps : List AS} {p m : List Fd} {l lend : List Rw}
theorem aq7 (h : ¬ lvE n ps = 0) : lcR n ps p m = ((0, []), [], (0, []), lvE n ps) := if_neg h
theorem aqc (h : lvE n ps = 0) (h2 : ¬ cj n p m = 0) : lcR n ps p m = ((0, []), [], (0, []), cj n p m) := (if_pos h).trans (if_neg h2)
theorem aia (h : lvE n ps = 0) (h2 : cj n p m = 0) : lcR n ps p m = ((n, c4 (df n ps)), (lsT n ps p m).1, (lsT n ps p m).2.1, (lsT n ps p m).2.2) := (if_pos h).trans (if_pos h2)
theorem o4 : (lcR n ps p m).2.2.2 = lsC n ps p m := by
 unfold lcR lsC
 split
 · split <;> rfl
 · rfl
theorem ahs (h : (lcR n ps p m).2.2.2 = 0) : ((lcR n ps p m).2.2.1.2.any fun r => decide (r = fg n)) = lsB n ps p m := by
 have hc := h
 rw [o4] at hc
 obtain ⟨h1, h2⟩ := zx hc
 unfold lsB
 rw [decide_eq_true hc, Bool.true_and, aia h1 h2]
theorem ahu (h : ¬ (lcR n ps p m).2.2.2 = 0) : lsB n ps p m = false := by
 rw [o4] at h
 unfold lsB
 rw [decide_eq_false h]
 rfl
theorem ani : (bif decide ((lcR n ps p m).2.2.2 = 0) then ((lcR n ps p m).2.2.1.2.any fun r => decide (r = fg n)) else false) = lsB n ps p m := by
 by_cases h : (lcR n ps p m).2.2.2 = 0
 · rw [decide_eq_true h, cond_true, ahs h]
 · rw [decide_eq_false h, cond_false, ahu h]
theorem ar6 (h : lcR n ps p m = lcR n ps p m) (h2 : (lcR n ps p m).2.2.2 = 0) : 0 ≤ n ∧ n ≤ 8 := by
 rw [o4] at h2
 obtain ⟨h1, _⟩ := zx h2
 exact ⟨(qp h1).1, (qp h1).2.1⟩
def aq4 (n : Int) (p m : List Fd) (l : List Rw) (sts : List St) : List (Int × List Rw) := (trL n p m l sts).map fun t => (n, t)
def rcR (n : Int) (ps : List AS) (p m : List Fd) : List St × List (Int × List Rw) × Int :=
 if lsC n ps p m = 0 then ((lsT n ps p m).1, aq4 n p m (c4 (df n ps)) (lsT n ps p m).1, 0) else ([], [], lsC n ps p m)
def ars (n : Int) (t : List Rw) : Bool := t.any fun r => decide (r = fg n)
def prX (n : Int) (ps : List AS) (p m : List Fd) : Int := idx (fun a : Int × List Rw => ars n a.2) (rcR n ps p m).2.1
def prC (n : Int) (ps : List AS) (p m : List Fd) : Int := if (rcR n ps p m).2.2 = 0 then (if prX n ps p m < 0 then 11 else 0) else (rcR n ps p m).2.2
def prS (n : Int) (ps : List AS) (p m : List Fd) : List St := if (rcR n ps p m).2.2 = 0 then (if prX n ps p m < 0 then [] else (rcR n ps p m).1.take (prX n ps p m).toNat) else []
end
end Go.Hx
end
section
namespace Go.Hx
open Go.Proofs
theorem ak6 (n : Int) (ps : List AS) (h : lvE n ps = 0) : ai Tryz.prog 148 [pI n, pP (asl ps)] (al [pT n (c4 (df n ps)), pI 0]) := by
 have := amr n ps
 rw [agn h] at this
 exact this
theorem ajn (n : Int) (ps : List AS) (p m : List Fd) : ai Tryz.prog 149 [pT n (c4 (df n ps)), pP (fdl p), pP (fdl m)] (al [pP (stl (lsT n ps p m).1), pT (lsT n ps p m).2.1.1 (lsT n ps p m).2.1.2, pI (lsT n ps p m).2.2]) :=
 amc FU n (c4 (df n ps)) p m (fun h => ann h) (by decide)
end Go.Hx
end
section
namespace Go.Hx
open Go.Proofs
set_option maxRecDepth 100000
set_option maxHeartbeats 1000000
theorem aje : goodFn Tryz.prog 131 := ⟨Tryz.f131, Tryz.func131, by kernel_rfl, by kernel_rfl⟩
theorem amu (ps : List AS) : ai Tryz.prog 131 [pP (asl ps)] (al [pA (orL ps)]) := by
 refine aj (nt := 17) ah Tryz.func131 rfl rfl l9 ?_; refine sx7 ?_; refine qy ?_; refine a6 ?_; refine sx7 ?_; refine qy ?_; refine a6 ?_; (iterate 2 refine a7 ?_)
 refine en 0 rfl fun hn => ?_
 refine gy ?_; (iterate 3 refine qy ?_); refine a6 ?_; refine ab ?_
 refine ao (ι := Nat) ⟨[(6, some _), (7, some _)], []⟩ ⟨⟨c9, c9, trivial⟩, trivial⟩ (fun i => ⟨[(3, some (vA (orL (ps.take i)))), (8, some (vI i))], []⟩) (fun i => i ≤ ps.length) (fun i => ps.length - i) (0) (Nat.zero_le _) ⟨⟨⟨_, rfl, (CoR.refl _)⟩, zy, trivial⟩, trivial⟩ ?_
 rintro i hi
 refine sx7 ?_; refine qy ?_; refine a6 ?_; refine a7 ?_; refine a8 _ rfl (fun r0 => ?_) (fun r0 => ?_)
 ·
  have h0 := of_decide_eq_true r0
  try simp only [ty] at h0
  refine aa ?_; refine a7 ?_; refine ab ?_; refine sx7 ?_; (iterate 3 refine qy ?_); refine a6 ?_; refine gy ?_; (iterate 4 refine qy ?_); refine a6 ?_; refine gy ?_; (iterate 2 refine qy ?_)
  refine a6 ?_; refine ⟨i + 1, ?_, ?_, ?_⟩
  · show i + 1 ≤ _; omega
  · first | omega | (dsimp only; omega)
  · exact ⟨⟨⟨_, rfl, (ja (by rw [bOr, afl (by omega)]; rfl))⟩, zy, c9, c9, trivial⟩, trivial⟩
 ·
  have h0 := of_decide_eq_false r0
  try simp only [ty] at h0
  obtain rfl : i = ps.length := by omega
  refine ar ?_; refine sx7 ?_; (iterate 2 refine qy ?_); refine a6 ?_
  exact hx8 rfl rfl rfl (⟨cci (by rw [List.take_length]), trivial⟩)
theorem anv : goodFn Tryz.prog 83 := ⟨Tryz.f83, Tryz.func83, by kernel_rfl, by kernel_rfl⟩
theorem alx (n : Int) (ps : List AS) : ai Tryz.prog 83 [pI n, pP (asl ps)] (al [pI (lvE n ps)]) := by
 refine aj (nt := 28) ah Tryz.func83 rfl rfl l9 ?_; refine sx7 ?_; refine qy ?_; refine a6 ?_; refine a7 ?_; refine ab ?_; refine sx7 ?_; (iterate 3 refine qy ?_)
 refine ca rfl rfl (fun r0 => ?_) (fun r0 => ?_)
 ·
  have h0 := of_decide_eq_true r0
  try simp only [ty] at h0
  (iterate 2 refine k9 (gtf r0) ?_); refine rq rfl rfl rfl rfl rfl ?_ (hp := r0); refine qy ?_; refine a6 ?_; refine a8 _ rfl (fun _ => ?_) (fun e => by cases e); refine sx7 ?_; refine qy ?_; refine a6 ?_
  exact hx8 rfl rfl rfl (⟨cci (aiu (by omega)).symm, trivial⟩)
 ·
  have h0 := of_decide_eq_false r0
  try simp only [ty] at h0
  (iterate 2 refine qy ?_ (hg := (gff r0))); (iterate 2 refine qy ?_); refine a6 ?_; refine a8 _ rfl (fun r1 => ?_) (fun r1 => ?_)
  ·
   have h1 := r1
   have h1 := cu r0 h1
   have h1 := of_decide_eq_true h1
   try simp only [ty] at h1
   refine sx7 ?_; refine qy ?_; refine a6 ?_
   exact hx8 rfl rfl rfl (⟨cci (aiu (by omega)).symm, trivial⟩)
  ·
   have h1 := r1
   have h1 := cu r0 h1
   have h1 := of_decide_eq_false h1
   try simp only [ty] at h1
   have hz0 : 0 ≤ n := by omega
   have hz1 : n ≤ 16 := by omega
   refine sx7 ?_; (iterate 4 refine qy ?_); refine a6 ?_; refine a8 _ rfl (fun r2 => ?_) (fun r2 => ?_)
   ·
    have h2 := of_decide_eq_true r2
    try simp only [ty] at h2
    refine sx7 ?_; refine qy ?_; refine a6 ?_
    exact hx8 rfl rfl rfl (⟨cci (ap9 (by omega) (by omega)).symm, trivial⟩)
   ·
    have h2 := of_decide_eq_false r2
    try simp only [ty] at h2
    refine a7 ?_; refine br (E := c6) ah bh [0, 1, 2, 3, 4, 5, 6, 7, 8, 9, 10, 11] ?_; (iterate 4 refine qy ?_); refine ca rfl rfl (fun r3 => ?_) (fun r3 => ?_)
    ·
     have h3 := of_decide_eq_true r3
     try simp only [ty] at h3
     (iterate 6 refine k9 (gtf r3) ?_); refine rq rfl rfl rfl rfl rfl ?_ (hp := r3); refine qy ?_; refine a6 ?_; refine ⟨by kernel_rfl, ?_⟩; refine a8 _ rfl (fun _ => ?_) (fun e => by cases e); refine sx7 ?_
     refine qy ?_; refine a6 ?_
     exact hx8 rfl rfl rfl (⟨cci (aiv (by omega) (by omega) (by first | exact .inl (by omega) | exact .inr (fun e => absurd (show asI (orL ps) = IntKind.wrap .u32 (1 * 2 ^ (min n.toNat 32)) - 1 by rw [mc hz0 hz1, e]) (by assumption)))).symm, trivial⟩)
    ·
     have h3 := of_decide_eq_false r3
     try simp only [ty] at h3
     refine qy ?_ (hg := (gff r3)); refine rc rfl rfl rfl rfl rfl rfl aje (amu ps) (CoL.refl _) rfl (gff r3) ?_; (iterate 2 refine qy ?_ (hg := (gff r3)))
     refine rq rfl rfl rfl rfl (gff r3) ?_ (hp := ⟨so hz0 hz1, ot hz0 hz1⟩); refine qy ?_ (hg := (gff r3)); (iterate 2 refine qy ?_); refine a6 ?_; refine ⟨by kernel_rfl, ?_⟩
     refine a8 _ rfl (fun r4 => ?_) (fun r4 => ?_)
     ·
      have h4 := r4
      have h4 := cu r3 h4
      have h4 := of_decide_eq_false (b8 h4)
      try simp only [ty] at h4
      refine sx7 ?_; refine qy ?_; refine a6 ?_
      exact hx8 rfl rfl rfl (⟨cci (aiv (by omega) (by omega) (by first | exact .inl (by omega) | exact .inr (fun e => absurd (show asI (orL ps) = IntKind.wrap .u32 (1 * 2 ^ (min n.toNat 32)) - 1 by rw [mc hz0 hz1, e]) (by assumption)))).symm, trivial⟩)
     ·
      have h4 := r4
      have h4 := cu r3 h4
      have h4 := of_decide_eq_true (b7 h4)
      try simp only [ty] at h4
      refine aa ?_; refine sx7 ?_; refine qy ?_; refine a6 ?_; refine bi ?_; refine ⟨.inr rfl, ?_⟩
      exact ⟨_, _, _, _, rfl, (by (repeat' apply And.intro) <;> first | trivial | exact Nat.le_of_ble_eq_true rfl | rfl), rfl, (by (repeat' apply And.intro) <;> first | trivial | exact Nat.le_of_ble_eq_true rfl | rfl), ⟨cci (api (by omega) (by omega) (fun e => by
       rcases e with e | e
       · omega
       · exact e (dp.1 ((by assumption : asI (orL ps) = IntKind.wrap .u32 (1 * 2 ^ (min n.toNat 32)) - 1).trans (mc hz0 hz1))))).symm, trivial⟩⟩
theorem amm : goodFn Tryz.prog 98 := ⟨Tryz.f98, Tryz.func98, by kernel_rfl, by kernel_rfl⟩
theorem ajl (n : Int) (ps : List AS) (p m : List Fd) : ai Tryz.prog 98 [pI n, pP (asl ps), pP (fdl p), pP (fdl m)] (al [pT (lcR n ps p m).1.1 (lcR n ps p m).1.2, pP (stl (lcR n ps p m).2.1), pT (lcR n ps p m).2.2.1.1 (lcR n ps p m).2.2.1.2, pI (lcR n ps p m).2.2.2]) := by
 refine aj (nt := 58) ah Tryz.func98 rfl rfl l9 ?_; refine sx7 ?_; refine m9 0 ?_; refine qy ?_; refine m9 1 ?_; refine qy ?_; refine a6 ?_; refine a7 ?_; refine sx7 ?_; (iterate 2 refine qy ?_)
 refine rc rfl rfl rfl rfl rfl rfl anv (alx n ps) (CoL.refl _) rfl rfl ?_; refine qy ?_; refine a6 ?_; refine sx7 ?_; (iterate 2 refine qy ?_); refine a6 ?_; refine a8 _ rfl (fun r0 => ?_) (fun r0 => ?_)
 ·
  have h0 := r0
  have h0 := of_decide_eq_false (b8 h0)
  try simp only [ty] at h0
  refine sx7 ?_; (iterate 3 refine qy ?_); refine s9 ?_; refine qy ?_; refine s9 ?_; refine qy ?_; refine a6 ?_; refine bi ?_; refine ⟨.inr rfl, ?_⟩
  have he := aq7 (p := p) (m := m) (by assumption : ¬ lvE n ps = 0)
  exact f9 rfl rfl (by rw [he]; exact ⟨CoC.agg ⟨CoP.refl _, fb, trivial⟩, CoC.one (CoP.sl rfl (.inr rfl) (fun _ => rfl) (fun i j hi _ => absurd hi (Nat.not_lt_zero i))), CoC.agg ⟨CoP.refl _, fb, trivial⟩, CoC.refl _, trivial⟩)
 ·
  have h0 := r0
  have h0 := of_decide_eq_true (b7 h0)
  try simp only [ty] at h0
  have hv : lvE n ps = 0 := by assumption
  refine aa ?_; refine a7 ?_; refine sx7 ?_; (iterate 3 refine qy ?_); refine rc rfl rfl rfl rfl rfl rfl zw (w6 n p m) (CoL.refl _) rfl rfl ?_; refine qy ?_; refine a6 ?_; refine sx7 ?_
  (iterate 2 refine qy ?_); refine a6 ?_; refine a8 _ rfl (fun r1 => ?_) (fun r1 => ?_)
  ·
   have h1 := r1
   have h1 := of_decide_eq_false (b8 h1)
   try simp only [ty] at h1
   refine sx7 ?_; (iterate 3 refine qy ?_); refine s9 ?_; refine qy ?_; refine s9 ?_; refine qy ?_; refine a6 ?_; refine bi ?_; refine ⟨.inr rfl, ?_⟩
   have he := aqc hv (by assumption : ¬ cj n p m = 0)
   exact f9 rfl rfl (by rw [he]; exact ⟨CoC.agg ⟨CoP.refl _, fb, trivial⟩, CoC.one (CoP.sl rfl (.inr rfl) (fun _ => rfl) (fun i j hi _ => absurd hi (Nat.not_lt_zero i))), CoC.agg ⟨CoP.refl _, fb, trivial⟩, CoC.refl _, trivial⟩)
  ·
   have h1 := r1
   have h1 := of_decide_eq_true (b7 h1)
   try simp only [ty] at h1
   have hb : cj n p m = 0 := by assumption
   refine aa ?_; refine sx7 ?_; (iterate 2 refine qy ?_); refine rc rfl rfl rfl rfl rfl rfl am0 (ak6 n ps hv) (CoL.refl _) rfl rfl ?_; (iterate 3 refine qy ?_); refine m9 2 ?_; refine s9 ?_; refine qy ?_
   refine a6 ?_; refine a7 ?_; refine sx7 ?_; (iterate 2 refine qy ?_); refine a6 ?_; refine a8 _ rfl (fun e => by cases e) (fun _ => ?_); refine aa ?_; refine sx7 ?_; (iterate 3 refine qy ?_)
   refine rc rfl rfl rfl rfl rfl rfl akn (ajn n ps p m) (CoL.refl _) rfl rfl ?_; (iterate 4 refine qy ?_); refine m9 3 ?_; refine qy ?_; refine s9 ?_; refine qy ?_; refine a6 ?_; refine a7 ?_
   refine br (E := c6) ah bh [0, 1, 2, 3, 4, 5, 6, 7] ?_; (iterate 4 refine qy ?_); refine s9 ?_; refine qy ?_; refine s9 ?_; refine qy ?_; refine a6 ?_; refine ⟨by kernel_rfl, ?_⟩; refine bi ?_
   refine ⟨.inr rfl, ?_⟩
   have he := aia hv hb
   exact f9 rfl rfl (by rw [he]; exact CoL.refl _)
theorem ake : goodFn Tryz.prog 100 := ⟨Tryz.f100, Tryz.func100, by kernel_rfl, by kernel_rfl⟩
theorem alo (n : Int) (h0 : 0 ≤ n) (h1 : n ≤ 16) : ai Tryz.prog 100 [pI n] (al [pZ (fg n)]) := by
 refine aj (nt := 18) ah Tryz.func100 rfl rfl l9 ?_; refine sx7 ?_; refine qy ?_; refine a6 ?_; refine sx7 ?_; refine qy ?_; refine m9 0 ?_; refine qy ?_; refine a6 ?_; refine a7 ?_; refine sx7 ?_
 (iterate 3 refine qy ?_); refine a6 ?_; refine ab ?_
 refine ao (ι := Nat) ⟨[(3, some _), (8, some _)], []⟩ ⟨⟨c9, c9, trivial⟩, trivial⟩ (fun k => ⟨[(9, some (vI k))], [(0, some (.arr true 1 3 n.toNat (lf zC (stT n 0 (er 32) k))))]⟩) (fun k => k ≤ n.toNat) (fun k => n.toNat - k) (0) (Nat.zero_le _) ⟨⟨zy, trivial⟩, ⟨⟨_, rfl, (a3s rfl (fun _ => rfl))⟩, trivial⟩⟩ ?_
 rintro k hk
 refine sx7 ?_; refine qy ?_; refine a6 ?_; refine a7 ?_; refine a8 _ rfl (fun r0 => ?_) (fun r0 => ?_)
 ·
  have h0 := of_decide_eq_true r0
  try simp only [ty] at h0
  refine aa ?_; refine a7 ?_; refine ab ?_; refine sx7 ?_; (iterate 2 refine qy ?_); refine a6 ?_; refine gy ?_; (iterate 4 refine qy ?_); refine s9 ?_; refine a6 ?_; refine gy ?_; (iterate 2 refine qy ?_)
  refine a6 ?_; refine ⟨k + 1, ?_, ?_, ?_⟩
  · show k + 1 ≤ _; omega
  · first | omega | (dsimp only; omega)
  · exact ⟨⟨zy, c9, c9, trivial⟩, ⟨⟨_, rfl, (amn (ady (by omega)) rfl (by omega))⟩, trivial⟩⟩
 ·
  have h0 := of_decide_eq_false r0
  try simp only [ty] at h0
  refine ar ?_; refine a7 ?_; refine ce 3 rfl rfl rfl ?_; refine gy ?_; (iterate 2 refine qy ?_); refine a6 ?_
  exact hx8 rfl rfl rfl (⟨acu h1 (by omega), trivial⟩)
theorem amo : goodFn Tryz.prog 50 := ⟨Tryz.f50, Tryz.func50, by kernel_rfl, by kernel_rfl⟩
theorem aqq (n : Int) (ps : List AS) (p m : List Fd) : ai Tryz.prog 50 [pI n, pP (asl ps), pP (fdl p), pP (fdl m)] (al [pB (lsB n ps p m), pI (lsC n ps p m)]) := by
 refine aj (nt := 33) ah Tryz.func50 rfl rfl l9 ?_; refine sx7 ?_; (iterate 2 refine qy ?_); refine a6 ?_; refine sx7 ?_; (iterate 4 refine qy ?_)
 refine rc rfl rfl rfl rfl rfl rfl amm (ajl n ps p m) (CoL.refl _) rfl rfl ?_; (iterate 5 refine qy ?_); refine m9 0 ?_; refine m9 1 ?_; refine s9 ?_; refine qy ?_; refine s9 ?_; refine qy ?_; refine a6 ?_
 refine a7 ?_; refine br (E := c6) ah bh [0, 1, 2, 3, 4, 5, 6, 7, 8, 9, 10] ?_; (iterate 3 refine qy ?_); refine ca rfl rfl (fun r0 => ?_) (fun r0 => ?_)
 ·
  have h0 := of_decide_eq_true r0
  try simp only [ty] at h0
  have hz := ar6 (n := n) (ps := ps) (p := p) (m := m) rfl h0
  (iterate 2 refine qy ?_ (hg := (gtt r0))); refine rc rfl rfl rfl rfl rfl rfl ake (alo n hz.1 (by omega)) (CoL.refl _) rfl (gtt r0) ?_
  refine rc rfl rfl rfl rfl rfl rfl abx (aig (lcR n ps p m).2.2.1.1 (lcR n ps p m).2.2.1.2 (fg n)) (CoL.refl _) rfl (gtt r0) ?_; (iterate 4 refine qy ?_); refine a6 ?_; refine ⟨by kernel_rfl, ?_⟩
  exact hx8 rfl rfl rfl (⟨ccb (by first | exact ani | exact ahs (n := n) (ps := ps) (p := p) (m := m) (by assumption) | exact (ahu (n := n) (ps := ps) (p := p) (m := m) (by assumption)).symm), cci o4, trivial⟩)
 ·
  have h0 := of_decide_eq_false r0
  try simp only [ty] at h0
  (iterate 4 refine k9 (gft r0) ?_); refine rq rfl rfl rfl rfl rfl ?_ (hp := r0); (iterate 3 refine qy ?_); refine a6 ?_; refine ⟨by kernel_rfl, ?_⟩
  exact hx8 rfl rfl rfl (⟨ccb (by first | exact ani | exact ahs (n := n) (ps := ps) (p := p) (m := m) (by assumption) | exact (ahu (n := n) (ps := ps) (p := p) (m := m) (by assumption)).symm), cci o4, trivial⟩)
end Go.Hx
end
section
namespace Go.Hx
inductive Lf (l : List Fd) : AS → AS → Prop
 | leaf {s : AS} : mq l s = false → Lf l s s
 | left {s q : AS} : mq l s = true → Lf l (spA l s) q → Lf l s q
 | right {s q : AS} : mq l s = true → Lf l (spB l s) q → Lf l s q
def aml (l : List Fd) : Nat → AS → List AS
 | 0, s => [s]
 | k + 1, s => if mq l s = true then aml l k (spA l s) ++ aml l k (spB l s) else [s]
end Go.Hx
end
section
namespace Go.Hx
open Go.Proofs
def u8A (b : BitVec 8) : AS := b.setWidth 32
abbrev u8C : BitVec 8 → Nat → PV := fun b _ => .raw (.int .u8 (b.toNat : Int))
end Go.Hx
end
section
namespace Go.Hx
open Go.Proofs Go.Proofs.YtidophngianjiaaGreatDoor
open Go.RowKit Go.ChangeShapes Go.WideShapes Go.ChangeAt
theorem rd5 : Rd Tryz.prog 5 1 u8C := (aqa Tryz.underlying5).co (fun u => u.toBitVec) fun a j hj => CoP.refl _
theorem ap8 : Rd Tryz.prog 136 2 Dp.c := by
 intro H enc w sp held fuel cs x h
 obtain ⟨hl, n, hf⟩ := ae2 Tryz.underlying136 h
 obtain ⟨y0, e0⟩ := hf 0 _ rfl
 obtain ⟨y1, e1⟩ := hf 1 _ rfl
 obtain ⟨a0, h0⟩ := a4v rd5 e0
 obtain ⟨a1, h1⟩ := a4v rd5 e1
 refine ⟨hl.trans (by kernel_rfl), (⟨a0, a1⟩ : Dp), fun j hj => ?_⟩
 match j, hj with
 | 0, _ => exact h0 0 (by omega)
 | 1, _ => exact h1 0 (by omega)
theorem aid : RdB Tryz.prog 22 1 (anw 2 Dp.c) fun b l => l.length ≤ b :=
 (aeu (B := fun _ _ => True) (fun _ _ _ _ _ => trivial) Tryz.underlying22 (by kernel_rfl) (by omega) ap8.toB).co id (fun b a h => h.1) fun a j hj => CoP.refl _
theorem aqw : RdB Tryz.prog 24 2 Dps.c fun b d => d.l.length ≤ b := by
 intro H enc w sp held fuel cs x h
 obtain ⟨hl, n, hf⟩ := a07 Tryz.underlying24 h
 obtain ⟨y0, e0⟩ := hf 0 _ rfl
 obtain ⟨y1, e1⟩ := hf 1 _ rfl
 obtain ⟨a0, _, h0⟩ := ka (fun _ _ _ _ _ => trivial) rd5.toB e0
 obtain ⟨a1, hb, h1⟩ := ka (B := fun b (l : List Dp) => l.length ≤ b) (fun _ _ _ h k => Nat.le_trans k h) aid e1
 refine ⟨hl.trans (by kernel_rfl), (⟨a0, a1⟩ : Dps), hb, fun j hj => ?_⟩
 match j, hj with
 | 0, _ => exact h0 0 (by omega)
 | 1, _ => exact h1 0 (by omega)
end Go.Hx
end
section
namespace Go.Hx
theorem ur {a b : AS} (h : ∀ i, i < 32 → a.getLsbD i = b.getLsbD i) : a = b := BitVec.eq_of_getLsbD_eq h
theorem aiy {s t : AS} : s &&& t = 0 ↔ ∀ i, i < 32 → s.getLsbD i = true → t.getLsbD i = false := by
 constructor
 · intro h i hi hs
   have := congrArg (fun x : AS => x.getLsbD i) h
   simp only [BitVec.getLsbD_and, hs, Bool.true_and] at this
   simpa using this
 · intro h
   apply ur
   intro i hi
   have := h i hi
   rw [BitVec.getLsbD_and]
   cases hs : s.getLsbD i <;> simp_all
theorem acs {s t : AS} (h : s &&& t ≠ 0) : ∃ i, i < 32 ∧ s.getLsbD i = true ∧ t.getLsbD i = true := by
 apply Classical.byContradiction
 intro hn
 refine h (aiy.2 fun i hi hs => ?_)
 cases ht : t.getLsbD i with
 | false => rfl
 | true => exact absurd ⟨i, hi, hs, ht⟩ hn
theorem acp {s : AS} {i : Nat} (h : s.getLsbD i = true) : i < 32 := BitVec.lt_of_getLsbD h
theorem o9 {s t : AS} {i : Nat} (hi : i < 32) : (s &&& ~~~t).getLsbD i = (s.getLsbD i && !t.getLsbD i) := by simp [hi]
def aai (a : Nat) : AS := 1#32 <<< a
def c7 (m : Fd) (b : AS) : Bool := decide (b &&& m.lhs = 0) && (decide (b &&& m.rhs ≠ 0) && decide (b &&& ~~~m.rhs ≠ 0))
def hdB (m : Fd) (b : AS) : AS := if c7 m b = true then b &&& m.rhs else b
def tlB (m : Fd) (b : AS) : List AS := if c7 m b = true then [b &&& ~~~m.rhs] else []
def stB (m : Fd) (l : List AS) (i : Nat) : List AS := (l.take i).map (hdB m) ++ l.drop i ++ (l.take i).flatMap (tlB m)
def rdB (m : Fd) (l : List AS) : List AS := l.map (hdB m) ++ l.flatMap (tlB m)
def bj (ms : List Fd) (l : List AS) : List AS := ms.foldl (fun l m => rdB m l) l
def ge : List Fd → List AS → Bool
 | [], _ => false
 | m :: ms, l => l.any (c7 m) || ge ms (rdB m l)
def ml (ms : List Fd) : Nat → List AS → List AS
 | 0, l => l
 | f + 1, l => if ge ms l = true then ml ms f (bj ms l) else bj ms l
def muB : List AS → Nat
 | [] => 0
 | b :: l => b.toNat * b.toNat + muB l
theorem a1u : ∀ (l k : List AS), muB (l ++ k) = muB l + muB k
 | [], k => by simp [muB]
 | b :: l, k => by simp [muB, a1u l k]; omega
theorem xl (b r : AS) : (b &&& r).toNat + (b &&& ~~~r).toNat = b.toNat := by
 have h : (b &&& r) &&& (b &&& ~~~r) = 0#32 := aiy.2 fun i hi hs => by
  rw [o9 hi]
  rw [BitVec.getLsbD_and, Bool.and_eq_true] at hs
  simp [hs.1, hs.2]
 have e : (b &&& r) + (b &&& ~~~r) = b := by
  rw [BitVec.add_eq_or_of_and_eq_zero _ _ h]
  apply ur
  intro i hi
  rw [BitVec.getLsbD_or, o9 hi, BitVec.getLsbD_and]
  cases b.getLsbD i <;> cases r.getLsbD i <;> rfl
 rw [← BitVec.toNat_add_of_and_eq_zero h, e]
theorem t7 {m : Fd} {b : AS} : c7 m b = true ↔ b &&& m.lhs = 0 ∧ b &&& m.rhs ≠ 0 ∧ b &&& ~~~m.rhs ≠ 0 := by simp [c7]
theorem agf {x y z : Nat} (h : x + y = z) (hx : 0 < x) (hy : 0 < y) : x * x + y * y < z * z := by
 subst h
 rw [Nat.add_mul, Nat.mul_add, Nat.mul_add]
 have : 0 < x * y := Nat.mul_pos hx hy
 have : 0 < y * x := Nat.mul_pos hy hx
 omega
theorem ug {b : AS} (h : b ≠ 0) : 0 < b.toNat := Nat.pos_of_ne_zero fun e => h (BitVec.eq_of_toNat_eq e)
theorem ad9 (m : Fd) : ∀ (l : List AS), muB (l.map (hdB m)) + muB (l.flatMap (tlB m)) + (if l.any (c7 m) = true then 1 else 0) ≤ muB l
 | [] => by simp [muB]
 | b :: l => by
  have ih := ad9 m l
  rw [List.map_cons, List.flatMap_cons, a1u, List.any_cons]
  simp only [muB]
  by_cases h : c7 m b = true
  · obtain ⟨_, h2, h3⟩ := t7.1 h
    have := agf (xl b m.rhs) (ug h2) (ug h3)
    simp only [hdB, tlB, h, if_true, muB, Bool.true_or]
    omega
  · rw [Bool.not_eq_true] at h
    simp only [hdB, tlB, h, muB, Bool.false_or, Bool.false_eq_true, if_false]
    omega
theorem alt (m : Fd) (l : List AS) : muB (rdB m l) + (if l.any (c7 m) = true then 1 else 0) ≤ muB l := by
 unfold rdB
 rw [a1u]
 exact ad9 m l
theorem a1o : ∀ (ms : List Fd) (l : List AS), muB (bj ms l) + (if ge ms l = true then 1 else 0) ≤ muB l
 | [], l => by simp [bj, ge]
 | m :: ms, l => by
  have h1 := alt m l
  have h2 := a1o ms (rdB m l)
  show muB (bj ms (rdB m l)) + _ ≤ _
  simp only [ge]
  by_cases h3 : l.any (c7 m) = true <;> by_cases h4 : ge ms (rdB m l) = true <;> simp only [h3, h4, Bool.true_or, Bool.or_true, Bool.or_false, if_true, Bool.false_eq_true, if_false] at h1 h2 ⊢ <;> omega
theorem ag9 {m : Fd} {l : List AS} (h : l.any (c7 m) = false) : rdB m l = l := by
 have h' : ∀ b ∈ l, c7 m b = false := fun b hb => by
  have := List.any_eq_false.1 h b hb
  simpa using this
 have e1 : l.map (hdB m) = l := by
  conv => rhs; rw [← List.map_id l]
  exact List.map_congr_left fun b hb => by simp [hdB, h' b hb]
 have e2 : l.flatMap (tlB m) = [] := List.flatMap_eq_nil_iff.2 fun b hb => by simp [tlB, h' b hb]
 simp [rdB, e1, e2]
theorem a5q : ∀ {ms : List Fd} {l : List AS}, ge ms l = false → bj ms l = l ∧ ∀ m ∈ ms, ∀ b ∈ l, c7 m b = false
 | [], l, _ => ⟨rfl, fun _ h => by cases h⟩
 | m :: ms, l, h => by
  simp only [ge, Bool.or_eq_false_iff] at h
  have e := ag9 h.1
  rw [e] at h
  obtain ⟨h1, h2⟩ := a5q h.2
  refine ⟨?_, fun k hk b hb => ?_⟩
  · show bj ms (rdB m l) = l
    rw [e]
    exact h1
  · rcases List.mem_cons.1 hk with rfl | hk
    · have := List.any_eq_false.1 h.1 b hb
      simpa using this
    · exact h2 k hk b hb
structure Blk (ms : List Fd) (rest : AS) (bs : List AS) : Prop where
 nz : ∀ b ∈ bs, b ≠ 0
 cnt : ∀ a, a < 32 → bs.countP (fun b => b.getLsbD a) = if rest.getLsbD a = true then 1 else 0
 ind : ∀ G : AS → Prop, G rest → (∀ m ∈ ms, ∀ b, G b → c7 m b = true → G (b &&& m.rhs) ∧ G (b &&& ~~~m.rhs)) → ∀ b ∈ bs, G b
theorem Blk.rd {ms : List Fd} {rest : AS} {bs : List AS} (h : Blk ms rest bs) {m : Fd} (hm : m ∈ ms) : Blk ms rest (rdB m bs) := by
 have hmem : ∀ {b : AS}, b ∈ rdB m bs → ∃ b0 ∈ bs, (c7 m b0 = false ∧ b = b0) ∨ (c7 m b0 = true ∧ (b = b0 &&& m.rhs ∨ b = b0 &&& ~~~m.rhs)) := by
  intro b hb
  unfold rdB at hb
  rcases List.mem_append.1 hb with hb | hb
  · obtain ⟨b0, h0, rfl⟩ := List.mem_map.1 hb
    refine ⟨b0, h0, ?_⟩
    cases hs : c7 m b0 <;> simp [hdB, hs]
  · obtain ⟨b0, h0, hb⟩ := List.mem_flatMap.1 hb
    refine ⟨b0, h0, ?_⟩
    cases hs : c7 m b0
    · simp [tlB, hs] at hb
    · simp [tlB, hs] at hb
      exact .inr ⟨rfl, .inr hb⟩
 refine ⟨fun b hb => ?_, fun a ha => ?_, fun G h0 hG b hb => ?_⟩
 · obtain ⟨b0, h0, ⟨_, rfl⟩ | ⟨hs, hb⟩⟩ := hmem hb
   · exact h.nz _ h0
   · obtain ⟨_, h2, h3⟩ := t7.1 hs
     rcases hb with rfl | rfl
     · exact h2
     · exact h3
 · rw [← h.cnt a ha]
   have : ∀ l : List AS, (l.map (hdB m)).countP (fun b => b.getLsbD a) + (l.flatMap (tlB m)).countP (fun b => b.getLsbD a) = l.countP (fun b => b.getLsbD a) := by
    intro l
    induction l with
    | nil => rfl
    | cons b l ih =>
     rw [List.map_cons, List.flatMap_cons, List.countP_append, List.countP_cons, List.countP_cons, ← ih]
     cases hs : c7 m b
     · simp [hdB, tlB, hs]; omega
     · simp only [hdB, tlB, hs, if_true, List.countP_cons, List.countP_nil, o9 ha, BitVec.getLsbD_and]
       cases b.getLsbD a <;> cases m.rhs.getLsbD a <;> simp <;> omega
   unfold rdB
   rw [List.countP_append]
   exact this bs
 · obtain ⟨b0, h1, ⟨_, rfl⟩ | ⟨hs, hb⟩⟩ := hmem hb
   · exact h.ind G h0 hG _ h1
   · obtain ⟨g1, g2⟩ := hG m hm b0 (h.ind G h0 hG _ h1) hs
     rcases hb with rfl | rfl
     · exact g1
     · exact g2
theorem Blk.ron {ms : List Fd} {rest : AS} : ∀ {ms' : List Fd} {bs : List AS}, (∀ m ∈ ms', m ∈ ms) → Blk ms rest bs → Blk ms rest (bj ms' bs)
 | [], bs, _, h => h
 | m :: ms', bs, hm, h => Blk.ron (ms' := ms') (fun k hk => hm k (by simp [hk])) (h.rd (hm m (by simp)))
theorem Blk.end_ {ms : List Fd} {rest : AS} : ∀ {f : Nat} {bs : List AS}, muB bs < f → Blk ms rest bs → Blk ms rest (ml ms f bs) ∧ ∀ m ∈ ms, ∀ b ∈ ml ms f bs, c7 m b = false
 | 0, bs, hf, _ => absurd hf (Nat.not_lt_zero _)
 | f + 1, bs, hf, h => by
  have hr := h.ron (ms' := ms) (fun _ h => h)
  unfold ml
  cases hc : ge ms bs
  · obtain ⟨e, hs⟩ := a5q hc
    simp only [Bool.false_eq_true, if_false]
    rw [e]
    exact ⟨h, hs⟩
  · have := a1o ms bs
    rw [hc] at this
    simp only [if_true] at this ⊢
    exact Blk.end_ (by omega) hr
def ew (rest : AS) : List AS := if rest = 0 then [] else [rest]
theorem Blk.start (ms : List Fd) (rest : AS) : Blk ms rest (ew rest) := by
 unfold ew
 by_cases h : rest = 0
 · subst h
   simp only [if_true]
   exact ⟨fun _ h => by (cases h), fun a ha => by simp, fun _ _ _ _ h => by cases h⟩
 · rw [if_neg h]
   exact ⟨fun b hb => by (simp at hb; subst hb; exact h), fun a ha => by simp [List.countP_cons], fun G h0 _ b hb => by (simp at hb; subst hb; exact h0)⟩
theorem a30 (rest : AS) : muB (ew rest) < 18446744073709551616 := by
 unfold ew
 split
 · simp [muB]
 · simp only [muB]
   have h := rest.isLt
   have := Nat.mul_le_mul (Nat.le_of_lt_succ (show rest.toNat < 4294967295 + 1 from h)) (Nat.le_of_lt_succ (show rest.toNat < 4294967295 + 1 from h))
   omega
def blks (ms : List Fd) (rest : AS) : List AS := ml ms 18446744073709551616 (ew rest)
theorem aks (ms : List Fd) (rest : AS) : Blk ms rest (blks ms rest) ∧ ∀ m ∈ ms, ∀ b ∈ blks ms rest, c7 m b = false := Blk.end_ (a30 rest) (Blk.start ms rest)
theorem a9t {p : AS → Bool} {l : List AS} (h : l.countP p ≤ 1) {a b : AS} (ha : a ∈ l) (hb : b ∈ l) (pa : p a = true) (pb : p b = true) : a = b := by
 rw [List.countP_eq_length_filter] at h
 have h1 : a ∈ l.filter p := List.mem_filter.2 ⟨ha, pa⟩
 have h2 : b ∈ l.filter p := List.mem_filter.2 ⟨hb, pb⟩
 cases hl : l.filter p with
 | nil => rw [hl] at h1; cases h1
 | cons x r =>
  rw [hl] at h h1 h2
  cases r with
  | nil => simp at h1 h2; rw [h1, h2]
  | cons => simp at h
theorem Blk.one {ms : List Fd} {rest : AS} {bs : List AS} (h : Blk ms rest bs) {b b' : AS} (hb : b ∈ bs) (hb' : b' ∈ bs) {a : Nat} (h1 : b.getLsbD a = true) (h2 : b'.getLsbD a = true) : b = b' := by
 refine a9t (p := fun b => b.getLsbD a) ?_ hb hb' h1 h2
 rw [h.cnt a (acp h1)]
 split <;> omega
theorem Blk.sub {ms : List Fd} {rest : AS} {bs : List AS} (h : Blk ms rest bs) {b : AS} (hb : b ∈ bs) : Go.Hx.sub b rest := c5.2 fun a ha hba => by
 have h1 := h.cnt a ha
 have h2 : 0 < bs.countP (fun b => b.getLsbD a) := List.countP_pos_iff.2 ⟨b, hb, hba⟩
 cases hr : rest.getLsbD a with
 | true => rfl
 | false => rw [hr] at h1; simp only [Bool.false_eq_true, if_false] at h1; omega
end Go.Hx
end
section
namespace Go.Hx
def sgl (f : Fd) : List Fd := (aw f.rhs).map fun a => ⟨f.lhs, aai a⟩
def ov (fs ms : List Fd) : List Fd := ms ++ fs.flatMap sgl
def aqx (T : List AS) (r : AS) : List AS := if r ∈ T then T else T ++ [r]
def aqg (s : AS) (o : List AS) (T : List AS) : List AS := T.foldl (fun o r => aqx o (r &&& ~~~s)) o
def ast (T : List AS) (s : AS) : List AS := aqg s [] T
def arp (d : Fd) (r k : AS) : AS := (r &&& (d.lhs ||| d.rhs)) ||| (k &&& ~~~(d.lhs ||| d.rhs))
def agB (d : Fd) (r k : AS) : Bool := decide ((r ^^^ k) &&& d.lhs = 0)
structure aqk (fs ms : List Fd) (T : List AS) : Prop where
 fd : ∀ d ∈ fs, ∀ r ∈ T, ∀ k ∈ T, agB d r k = true → (r ^^^ k) &&& d.rhs = 0
 mv : ∀ d ∈ ms, ∀ r ∈ T, ∀ k ∈ T, agB d r k = true → arp d r k ∈ T
def apo (fs : List Fd) (bs : List AS) (a : Nat) : Prop := aai a ∈ bs ∧ ∃ f ∈ fs, f.rhs.getLsbD a = true ∧ f.lhs.getLsbD a = false
structure JT (fs : List Fd) (bs : List AS) (rest : AS) (T : List AS) : Prop where
 z : (0 : AS) ∈ T
 r : ∀ r ∈ T, sub r rest ∧ ∀ b ∈ bs, b &&& r = 0 ∨ sub b r
 top : ∃ L ∈ T, (∀ r ∈ T, sub r L) ∧ ∀ a, a < 32 → rest.getLsbD a = true → L.getLsbD a = false → apo fs bs a
section
variable {fs ms : List Fd} {bs : List AS} {rest : AS} {T : List AS}
def as7 (T : List AS) (b : AS) : Prop := ∀ r ∈ T, ∀ k ∈ T, ((r &&& b) ||| (k &&& ~~~b)) ∈ T
structure ate (fs ms : List Fd) (bs : List AS) (rest : AS) (T : List AS) : Prop where
 j : JT fs bs rest T
 c : aqk fs ms T
def qB (T : List AS) (L x rest y : AS) : Prop := y ≠ 0 ∧ sub y rest ∧ (L &&& ~~~(x ||| y)) ∈ T
end
end Go.Hx
end
section
namespace Go.Hx
def gn : List AS → Nat
 | [] => 0
 | b :: l => b.toNat + gn l
theorem yr : ∀ (l k : List AS), gn (l ++ k) = gn l + gn k
 | [], k => by simp [gn]
 | b :: l, k => by simp [gn, yr l k]; omega
def OkB (l : List AS) : Prop := gn l < 4294967296 ∧ ∀ b ∈ l, b ≠ 0
theorem a1s {l : List AS} (h : OkB l) : l.length ≤ 4294967296 := by
 have : ∀ l : List AS, (∀ b ∈ l, b ≠ 0) → l.length ≤ gn l := by
  intro l
  induction l with
  | nil => intro _; simp [gn]
  | cons b l ih =>
   intro h
   have h1 := ih fun x hx => h x (by simp [hx])
   have h2 := ug (h b (by simp))
   simp only [List.length_cons, gn]
   omega
 have h1 := this l h.2
 have := h.1
 omega
theorem ant (m : Fd) (l : List AS) : gn (rdB m l) = gn l := by
 have : ∀ l : List AS, gn (l.map (hdB m)) + gn (l.flatMap (tlB m)) = gn l := by
  intro l
  induction l with
  | nil => rfl
  | cons b l ih =>
   rw [List.map_cons, List.flatMap_cons, yr]
   simp only [gn]
   by_cases h : c7 m b = true
   · have := xl b m.rhs
     simp only [hdB, tlB, h, if_true, gn]
     omega
   · rw [Bool.not_eq_true] at h
     simp only [hdB, tlB, h, gn, Bool.false_eq_true, if_false]
     omega
 unfold rdB
 rw [yr]
 exact this l
theorem ada {m : Fd} {l : List AS} (h : OkB l) : OkB (rdB m l) := by
 refine ⟨by rw [ant]; exact h.1, fun b hb => ?_⟩
 unfold rdB at hb
 rcases List.mem_append.1 hb with hb | hb
 · obtain ⟨b0, h0, rfl⟩ := List.mem_map.1 hb
   unfold hdB
   split
   · rename_i hs; exact (t7.1 hs).2.1
   · exact h.2 _ h0
 · obtain ⟨b0, h0, hb⟩ := List.mem_flatMap.1 hb
   unfold tlB at hb
   split at hb
   · rename_i hs
     simp at hb
     subst hb
     exact (t7.1 hs).2.2
   · cases hb
theorem a31 (rest : AS) : OkB (ew rest) := by
 unfold ew
 split
 · exact ⟨by simp [gn], fun _ h => by cases h⟩
 · rename_i h
   exact ⟨by simp only [gn]; have := rest.isLt; omega, fun b hb => by simp at hb; subst hb; exact h⟩
theorem wn {rest : AS} (h : ¬ rest = 0) : ew rest = [] ++ [rest] := by rw [ew, if_neg h]; rfl
theorem wa {rest : AS} (h : rest = 0) : ew rest = [] := by rw [ew, if_pos h]
theorem yp (m : Fd) (l : List AS) : stB m l 0 = l := by simp [stB]
theorem s3 (m : Fd) (l : List AS) : stB m l l.length = rdB m l := by simp [stB, rdB]
theorem l4 (m : Fd) (l : List AS) (i : Nat) : ((l.take i).map (hdB m)).length = min i l.length := by simp
theorem akm {m : Fd} {l : List AS} {i : Nat} (h : i < l.length) : (stB m l i).getD i default = l.getD i default := by
 have e : ((l.take i).map (hdB m)).length = i := by rw [l4]; omega
 unfold stB
 rw [List.append_assoc, List.getD_eq_getElem?_getD, List.getElem?_append_right (by rw [e]; omega), e, Nat.sub_self, List.getElem?_append_left (by rw [List.length_drop]; omega), List.getElem?_drop, Nat.add_zero, ← List.getD_eq_getElem?_getD]
theorem stB_get' {m : Fd} {l : List AS} {i a : Nat} (hia : i ≤ a) (h : a < l.length) : (stB m l i).getD a default = l.getD a default := by
 have e : ((l.take i).map (hdB m)).length = i := by rw [l4]; omega
 unfold stB
 rw [List.append_assoc, List.getD_eq_getElem?_getD, List.getElem?_append_right (by rw [e]; omega), e, List.getElem?_append_left (by rw [List.length_drop]; omega), List.getElem?_drop, show i + (a - i) = a by omega, ← List.getD_eq_getElem?_getD]
theorem a84 (m : Fd) (l : List AS) (i : Nat) : l.length ≤ (stB m l i).length := by
 unfold stB
 rw [List.length_append, List.length_append, l4, List.length_drop]
 omega
theorem a2x {l : List AS} {i : Nat} (h : i < l.length) : l.drop i = l.getD i default :: l.drop (i + 1) := by
 rw [List.drop_eq_getElem_cons h]
 congr 1
 simp [List.getD_eq_getElem?_getD, List.getElem?_eq_getElem h]
theorem ip {m : Fd} {l : List AS} {i : Nat} (h : i < l.length) (hs : c7 m (l.getD i default) = false) : stB m l (i + 1) = stB m l i := by
 unfold stB
 rw [bg h, List.map_append, List.flatMap_append, a2x h]
 simp only [List.map_cons, List.map_nil, List.flatMap_cons, List.flatMap_nil, hdB, tlB, hs, Bool.false_eq_true, if_false, List.append_nil, List.append_assoc, List.cons_append, List.nil_append]
theorem a3o {m : Fd} {l : List AS} {i : Nat} (h : i < l.length) (hs : c7 m (l.getD i default) = true) : stB m l (i + 1) = (stB m l i).set i (l.getD i default &&& m.rhs) ++ [l.getD i default &&& ~~~m.rhs] := by
 have e : ((l.take i).map (hdB m)).length = i := by rw [l4]; omega
 unfold stB
 rw [bg h, List.map_append, List.flatMap_append, a2x h]
 simp only [List.map_cons, List.map_nil, List.flatMap_cons, List.flatMap_nil, hdB, tlB, hs, if_true, List.append_nil]
 generalize hA : (l.take i).map (hdB m) = A at e ⊢
 generalize (l.take i).flatMap (tlB m) = B
 generalize l.drop (i + 1) = D
 subst e
 rw [List.append_assoc A, List.append_assoc A, List.append_assoc A, List.set_append_right _ _ (Nat.le_refl _), Nat.sub_self, List.append_assoc A]
 simp
theorem ap0 (m : Fd) (l : List AS) : ∀ i, (stB m l i).length ≤ (rdB m l).length := by
 intro i
 by_cases hi : i < l.length
 · have : ∀ k, i + k ≤ l.length → (stB m l i).length ≤ (stB m l (i + k)).length := by
    intro k
    induction k with
    | zero => intro _; exact Nat.le_refl _
    | succ k ih =>
     intro hk
     have h1 := ih (by omega)
     refine Nat.le_trans h1 ?_
     cases hs : c7 m (l.getD (i + k) default)
     · rw [show i + (k + 1) = i + k + 1 by omega, ip (by omega) hs]; exact Nat.le_refl _
     · rw [show i + (k + 1) = i + k + 1 by omega, a3o (by omega) hs, List.length_append, List.length_set]; omega
   have h2 := this (l.length - i) (by omega)
   rw [show i + (l.length - i) = l.length by omega, s3] at h2
   exact h2
 · unfold stB rdB
   rw [List.take_of_length_le (by omega), List.drop_eq_nil_of_le (by omega)]
   simp
def ud (l : List AS) (i : Nat) : Nat → Nat → PV := fun k c => if k < i then .any else sC (l.getD k default) c
theorem am5 (l : List AS) (i : Nat) : ud l i i 0 = asC (l.getD i default) := by
 unfold ud
 rw [if_neg (Nat.lt_irrefl i)]
theorem wt {l : List AS} {i : Nat} {cl : Bool} {n : Nat} (hn : n = l.length) : CoP (.sl n 1 cl (ud l i)) (.sl l.length 1 false (ud l (i + 1))) := by
 subst hn
 refine CoP.sl rfl (.inl rfl) (fun h => by cases h) fun k c hk hc => ?_
 unfold ud
 by_cases h1 : k < i
 · rw [if_pos h1, if_pos (show k < i + 1 by omega)]; exact CoP.refl _
 · rw [if_neg h1]
   by_cases h2 : k < i + 1
   · rw [if_pos h2]; exact CoP.any_of
   · rw [if_neg h2]; exact CoP.refl _
theorem a5y {m : Fd} {L : List AS} {i k : Nat} {v : PV} (hil : i < L.length) (hk : k = i := by rfl) : CoP (.sl L.length 1 false (dq (lf sC (stB m L i)) k 0 [v])) (.sl L.length 1 false (ud L (i + 1))) := by
 subst hk
 refine CoP.sl rfl (.inl rfl) (fun h => h) fun a c ha hc => ?_
 obtain rfl : c = 0 := by omega
 unfold ud
 by_cases h : a < k + 1
 · rw [if_pos h]; exact CoP.any_of
 · rw [if_neg h]
   unfold dq lf
   rw [if_neg (by omega), stB_get' (by omega) ha]
   exact CoP.refl _
theorem adh {A B : List AS} {a : Nat} (h : a < A.length) : (A ++ B).getD a default = A.getD a default := by simp [List.getD_eq_getElem?_getD, List.getElem?_append_left h]
theorem abk {A : List AS} {x : AS} : (A ++ [x]).getD A.length default = x := by simp [List.getD_eq_getElem?_getD]
theorem lw {wr wr' : Bool} {e : TypeId} {m : Fd} {L : List AS} {i k : Nat} {u : Int} {g : Nat → Nat → PV} (hil : i < L.length) (hs : c7 m (L.getD i default) = true) (hk : k = i) (hu : u = asI (L.getD i default &&& m.rhs)) (hg : CoP (g 0 0) (asC (L.getD i default &&& ~~~m.rhs))) (hw : wr' = true → wr = true := by exact fun h => h) :
 CoO (.arr wr 1 e ((stB m L i).length + 1) (ej (stB m L i).length (dq (lf sC (stB m L i)) k 0 [.raw (.int .u32 u)]) g)) (.arr wr' 1 e (stB m L (i + 1)).length (lf sC (stB m L (i + 1)))) := by
 subst hk hu
 have hl := a84 m L k
 rw [a3o hil hs]
 refine ⟨hw, rfl, rfl, by rw [List.length_append, List.length_set]; rfl, fun a j ha hj => ?_⟩
 obtain rfl : j = 0 := by omega
 unfold ej
 generalize L.getD k default &&& m.rhs = X
 generalize L.getD k default &&& ~~~m.rhs = Y at hg ⊢
 generalize stB m L k = A at hl ha ⊢
 by_cases h : a < A.length
 · rw [if_pos h]
   refine CoP.of_eq ?_
   show dq (lf sC A) k 0 [.raw (.int .u32 (asI X))] a 0 = sC ((A.set k X ++ [Y]).getD a default) 0
   rw [adh (by rw [List.length_set]; exact h)]
   unfold dq lf
   by_cases h2 : a = k
   · subst h2
     rw [if_pos ⟨rfl, Nat.le_refl _, by simp⟩, ib h]
     rfl
   · rw [if_neg (by omega), getD_set_ne' h2]
 · obtain rfl : a = A.length := by omega
   rw [if_neg h, Nat.sub_self]
   show CoP (g 0 0) (sC ((A.set k X ++ [Y]).getD A.length default) 0)
   have := abk (A := A.set k X) (x := Y)
   rw [List.length_set] at this
   rw [this]
   exact hg
theorem sb {ms : List Fd} {l : List AS} {j : Nat} (h : j < ms.length) : bj (ms.take (j + 1)) l = rdB (ms.getD j default) (bj (ms.take j) l) := by
 unfold bj
 rw [bg h, List.foldl_append]
 rfl
theorem a8r : ∀ (ms : List Fd) (m : Fd) (l : List AS), ge (ms ++ [m]) l = (ge ms l || (bj ms l).any (c7 m))
 | [], m, l => by simp [ge, bj]
 | k :: ms, m, l => by
  simp only [List.cons_append, ge]
  rw [a8r ms m (rdB k l), Bool.or_assoc]
  rfl
theorem a5d {ms : List Fd} {l : List AS} {j : Nat} (h : j < ms.length) : ge (ms.take (j + 1)) l = (ge (ms.take j) l || (bj (ms.take j) l).any (c7 (ms.getD j default))) := by
 rw [bg h, a8r]
theorem ww {l : List AS} (h : OkB l) : ∀ {ms : List Fd}, OkB (bj ms l) := by
 intro ms
 induction ms generalizing l with
 | nil => exact h
 | cons m ms ih => exact ih (ada h)
structure BkI (ms : List Fd) (R : List AS) (x : Nat × List AS × Bool) : Prop where
 ok : OkB x.2.1
 t : x.2.2 = true → ml ms x.1 x.2.1 = R ∧ muB x.2.1 < x.1
 f : x.2.2 = false → x.2.1 = R
theorem ahn (ms : List Fd) (rest : AS) : BkI ms (blks ms rest) (18446744073709551616, ew rest, true) := ⟨a31 rest, fun _ => ⟨rfl, a30 rest⟩, fun h => by cases h⟩
theorem ajt {ms : List Fd} {R l : List AS} {f : Nat} (h : BkI ms R (f, l, true)) : BkI ms R (f - 1, bj ms l, ge ms l) ∧ 0 < f := by
 obtain ⟨h1, h2⟩ := h.t rfl
 have h2 : muB l < f := h2
 obtain ⟨g, rfl⟩ : ∃ g, f = g + 1 := ⟨f - 1, by omega⟩
 have h3 := a1o ms l
 refine ⟨⟨ww h.ok, fun hc => ?_, fun hc => ?_⟩, by omega⟩
 · have hc : ge ms l = true := hc
   have h1 : ml ms (g + 1) l = R := h1
   unfold ml at h1
   rw [if_pos hc] at h1 h3
   exact ⟨h1, by show muB (bj ms l) < g; omega⟩
 · have hc : ge ms l = false := hc
   have h1 : ml ms (g + 1) l = R := h1
   unfold ml at h1
   rw [hc] at h1
   exact h1
def ckB (n : Int) (l m : List Fd) (s : AS) : Int := if cj n l m = 0 then (if s >>> n.toNat = 0 then 0 else 1) else cj n l m
theorem aa4 {n : Int} {l m : List Fd} {s : AS} (h : ¬ cj n l m = 0) : ckB n l m s = cj n l m := if_neg h
theorem aii {n : Int} {l m : List Fd} {s : AS} (h : cj n l m = 0) (h2 : ¬ s >>> n.toNat = 0) : ckB n l m s = 1 := by unfold ckB; rw [if_pos h, if_neg h2]
theorem vr {n : Int} {l m : List Fd} {s : AS} (h : cj n l m = 0) (h2 : s >>> n.toNat = 0) : ckB n l m s = 0 := by unfold ckB; rw [if_pos h, if_pos h2]
theorem o5 {n : Int} {l m : List Fd} {s : AS} (h : ckB n l m s = 0) : cj n l m = 0 ∧ s >>> n.toNat = 0 := by
 unfold ckB at h
 split at h
 · split at h
   · exact ⟨by assumption, by assumption⟩
   · cases h
 · exact absurd h (by assumption)
theorem a7y (f : Fd) : (sgl f).length ≤ 32 := by unfold sgl; rw [List.length_map]; exact a6c _
def fq (fs ms : List Fd) (i k : Nat) : List Fd := ms ++ (fs.take i).flatMap sgl ++ (sgl (fs.getD i default)).take k
theorem a2y (fs ms : List Fd) : fq fs ms 0 0 = ms := by simp [fq]
theorem ad8 {fs ms : List Fd} {i : Nat} (h : i < fs.length) : fq fs ms (i + 1) 0 = fq fs ms i (sgl (fs.getD i default)).length := by
 unfold fq
 rw [bg h, List.flatMap_append, List.take_length]
 simp
theorem afr (fs ms : List Fd) : fq fs ms fs.length 0 = ov fs ms := by simp [fq, ov]
theorem aen {fs ms : List Fd} {i k : Nat} (h : k < (sgl (fs.getD i default)).length) : fq fs ms i (k + 1) = fq fs ms i k ++ [(sgl (fs.getD i default)).getD k default] := by
 unfold fq
 rw [bg h, ← List.append_assoc]
theorem agz {fs ms : List Fd} {i k : Nat} : (fq fs ms i k).length ≤ ms.length + 32 * (i + 1) := by
 have : ∀ l : List Fd, (l.flatMap sgl).length ≤ 32 * l.length := by
  intro l
  induction l with
  | nil => simp
  | cons f l ih =>
   rw [List.flatMap_cons, List.length_append, List.length_cons]
   have := a7y f
   omega
 have h1 := this (fs.take i)
 have h2 := a7y (fs.getD i default)
 unfold fq
 rw [List.length_append, List.length_append, List.length_take]
 rw [List.length_take] at h1
 omega
end Go.Hx
end
