/- A part of the proof: Cs36 Cz1m Cs37 Cs38 V35 Cs40 Ls2 Ls3 Ls5 W0. -/
import Derived.Test.YtidophngianjiaaGreatDoor9x22
import Derived.Test.YtidophngianjiaaGreatDoor9x30
import Derived.Test.YtidophngianjiaaGreatDoor9x32
import Derived.Test.YtidophngianjiaaGreatDoor9x33
import Derived.Test.YtidophngianjiaaGreatDoor9x35
set_option linter.all false
section
namespace Go.Hx
def Eqv (l k : List Fd) : Prop := ∀ s, l6 l s ↔ l6 k s
theorem Eqv.refl (l : List Fd) : Eqv l l := fun s => Iff.rfl
theorem Eqv.trans {a b c : List Fd} (h : Eqv a b) (k : Eqv b c) : Eqv a c := fun s => (h s).trans (k s)
theorem Eqv.clo {l k : List Fd} (h : Eqv l k) (s : AS) : clo l s = clo k s :=
 gh (p8 ((h _).2 n9) xw) (p8 ((h _).1 n9) xw)
end Go.Hx
end
section
namespace Go.Hx
def a4x (l : List Fd) (ps : List AS) (t : AS) : Prop := ∀ p ∈ ps, sub (clo l (t &&& p) &&& p) t
theorem arb {l : List Fd} {z p : AS} : gc l z p = false ↔ sub (clo l (z &&& p) &&& p) z := by
 unfold gc nv sub
 rw [decide_eq_false_iff_not, Decidable.not_not, BitVec.and_comm p]
theorem ab2 {a b c : AS} (h : sub a b) : sub (a &&& c) (b &&& c) := nr (dz j1 h) tk
theorem aak {l : List Fd} {ps : List AS} : ∀ (n : Nat) (z : AS), 4294967296 < n + z.toNat → a4x l ps (pw l ps n z)
 | 0, z, h => by have := z.isLt; omega
 | n + 1, z, h => by
  unfold pw
  cases hf : ps.find? (gc l z) with
  | none =>
   intro p hp
   have := List.find?_eq_none.1 hf p hp
   exact arb.1 (by simpa using this)
  | some p =>
   have hm := List.find?_some hf
   have := a8y hm
   exact aak n _ (by omega)
theorem aen {l : List Fd} {ps : List AS} : ∀ (n : Nat) (z : AS), sub z (pw l ps n z)
 | 0, z => fj z
 | n + 1, z => by
  unfold pw
  cases hf : ps.find? (gc l z) with
  | none => exact fj z
  | some p => exact dz xj (aen n _)
theorem adm {l : List Fd} {ps : List AS} {t : AS} (ht : a4x l ps t) : ∀ (n : Nat) (z : AS), sub z t → sub (pw l ps n z) t
 | 0, z, h => h
 | n + 1, z, h => by
  unfold pw
  cases hf : ps.find? (gc l z) with
  | none => exact h
  | some p =>
   refine adm ht n _ (yk h ?_)
   have hp := List.mem_of_find?_eq_some hf
   refine dz ?_ (ht p hp)
   unfold nv
   refine dz j1 ?_
   rw [BitVec.and_comm]
   exact ab2 (a9a (ab2 h))
theorem amw (l : List Fd) (ps : List AS) (z : AS) : a4x l ps (se l ps z) := aak _ _ (by have := z.isLt; omega)
theorem ath {l : List Fd} {ps : List AS} {z : AS} : sub z (se l ps z) := aen _ _
theorem atc {l : List Fd} {ps : List AS} {z t : AS} (ht : a4x l ps t) (h : sub z t) : sub (se l ps z) t := adm ht _ _ h
def ayz (l : List Fd) (s p : AS) : AS := s ||| (clo l (s &&& p) &&& p)
def b0d (l : List Fd) (ps : List AS) (s : AS) : AS := ps.foldl (ayz l) s
def PrI (l : List Fd) (ps : List AS) (z s : AS) : Prop := sub z s ∧ sub s (se l ps z)
theorem amh {l : List Fd} {ps : List AS} : fv l ps = true ↔ ∀ f ∈ l, n7 l ps f = true := by
 unfold fv
 rw [List.all_eq_true]
 constructor
 · intro h f hf
   obtain ⟨j, hj, rfl⟩ := List.getElem_of_mem hf
   have := h j (List.mem_range.2 hj)
   rwa [List.getD_eq_getElem?_getD, List.getElem?_eq_getElem hj] at this
 · intro h j hj
   have hj := List.mem_range.1 hj
   rw [List.getD_eq_getElem?_getD, List.getElem?_eq_getElem hj]
   exact h _ (List.getElem_mem hj)
def b11 (n : Int) (l : List Fd) (i : Nat) : List AS := ((afs (b8 n)).take i).filter fun s => !qg l s
end Go.Hx
end
section
namespace Go.Hx
def b0f (l : List Fd) : Prop := ∀ f ∈ l, ∀ i, i < 32 → f.rhs.getLsbD i = true → f.lhs.getLsbD i = false
section
variable {n : Int} {l : List Fd}
end
end Go.Hx
end
section
namespace Go.Hx
open Go.Proofs
set_option maxRecDepth 100000
theorem a0k : tt 4 gn = gn ∧ az 4 gn = 0 := by decide +kernel
theorem asm : abe 4 gn = [3, 6, 9] := by decide +kernel
theorem apz : a71 4 gn = false := by decide +kernel
theorem aji : (decide (az 3 zw = 0) && decide (tt 3 zw = [])) = true ∧ az 3 zw = 0 := by decide +kernel
theorem aw6 : ah Tryz.prog 77 [pI 4, pP (fdl gn)] (ap [pP (fdl gn), pI 0]) := by
 have h := ahi 4 gn
 rw [a0k.1, a0k.2] at h
 exact h
theorem ar6 (hM : ∀ k : List Fd, k.length ≤ 16777216 → ah Tryz.prog 137 [pP (fdl k)] (ap [pP (fdl (y4 k))])) : ah Tryz.prog 43 [pI 4, pP (fdl gn)] (ap [pP (asl [3, 6, 9]), pI 0]) := by
 have h := as5 hM 4 gn
 rw [asm, a0k.2] at h
 exact h
theorem aok : ah Tryz.prog 78 [pI 4, pP (fdl gn)] (ap [pB false, pI 0]) := by
 have h := anz 4 gn
 rw [apz, a0k.2] at h
 exact h
theorem azs : ah Tryz.prog 79 [pI 3, pP (fdl zw)] (ap [pB true, pI 0]) := by
 have h := b0a 3 zw
 rw [aji.1, aji.2] at h
 exact h
theorem aw2 : ah Tryz.prog 80 [pP (fdl gn), pP (fdl gn)] (ap [pB true]) := by
 have h := axs gn gn
 rw [decide_eq_true rfl] at h
 exact h
theorem amj : ah Tryz.prog 32 [pP (asl [3, 6, 9]), pP (asl [3, 6, 9])] (ap [pB true]) := by
 have h := axb [3, 6, 9] [3, 6, 9]
 rw [decide_eq_true rfl] at h
 exact h
theorem anc {α : Type} [Inhabited α] {wr wr' : Bool} {e : TypeId} {c : α → Nat → PV} {x y z : α} {f : Nat → Nat → PV} (h0 : CoP (f 0 0) (c x 0)) (h1 : CoP (f 1 0) (c y 0)) (h2 : CoP (f 2 0) (c z 0)) (hw : wr' = true → wr = true := by exact fun h => h) : CoO (.arr wr 1 e 3 f) (.arr wr' 1 e 3 (lf c [x, y, z])) :=
 ⟨hw, rfl, rfl, rfl, fun i j hi hj => by
  have hi : i < 3 := hi
  have hj : j < 1 := hj
  obtain rfl : j = 0 := by omega
  rcases (by omega : i = 0 ∨ i = 1 ∨ i = 2) with rfl | rfl | rfl
  · exact h0
  · exact h1
  · exact h2⟩
theorem ars {wr wr' : Bool} {e : TypeId} {x y : Fd} {f : Nat → Nat → PV} (h0 : CoP (f 0 0) (x.c 0)) (h1 : CoP (f 0 1) (x.c 1)) (h2 : CoP (f 1 0) (y.c 0)) (h3 : CoP (f 1 1) (y.c 1)) (hw : wr' = true → wr = true := by exact fun h => h) : CoO (.arr wr 2 e 2 f) (.arr wr' 2 e 2 (lf Fd.c [x, y])) :=
 ⟨hw, rfl, rfl, rfl, fun i j hi hj => by
  have hi : i < 2 := hi
  have hj : j < 2 := hj
  rcases (by omega : i = 0 ∨ i = 1) with rfl | rfl <;> rcases (by omega : j = 0 ∨ j = 1) with rfl | rfl
  · exact h0
  · exact h1
  · exact h2
  · exact h3⟩
end Go.Hx
end
section
namespace Go.Hx
open Go.Proofs
set_option maxRecDepth 100000
theorem za : goodFn Tryz.prog 38 := ⟨Tryz.f38, Tryz.func38, by kernel_rfl, by kernel_rfl⟩
theorem vc (hM : ∀ k : List Fd, k.length ≤ 16777216 → ah Tryz.prog 137 [pP (fdl k)] (ap [pP (fdl (y4 k))]))  : ah Tryz.prog 38 [] (ap [pB true]) := by
 refine ag (nt := 66) af Tryz.func38 rfl rfl l9 ?_; refine sx7 ?_; refine qy ?_; refine a6 ?_; refine sx7 ?_; (iterate 2 refine qy ?_); refine m9 0 ?_; refine qy ?_; refine a6 ?_; refine bq 1 rfl rfl rfl ?_
 refine sx7 ?_; refine qy ?_; refine rc rfl rfl rfl rfl rfl rfl akg (aw6) (⟨CoC.refl _, CoC.one (a54 (CoP.refl _) (CoP.refl _) (CoP.refl _) (CoP.refl _)), trivial⟩) rfl rfl ?_; (iterate 5 refine qy ?_); refine a6 ?_
 refine sx7 ?_; refine qy ?_; refine rc rfl rfl rfl rfl rfl rfl avh (ar6 hM) (⟨CoC.refl _, CoC.one (a54 (CoP.refl _) (CoP.refl _) (CoP.refl _) (CoP.refl _)), trivial⟩) rfl rfl ?_; (iterate 5 refine qy ?_)
 refine a6 ?_; refine sx7 ?_; refine qy ?_; refine rc rfl rfl rfl rfl rfl rfl avs (aok) (⟨CoC.refl _, CoC.one (a54 (CoP.refl _) (CoP.refl _) (CoP.refl _) (CoP.refl _)), trivial⟩) rfl rfl ?_; (iterate 5 refine qy ?_)
 refine a6 ?_; refine sx7 ?_; (iterate 2 refine qy ?_); refine m9 1 ?_
 refine ci rfl rfl rfl rfl rfl rfl avx (ah.eat (hcs := [.one (.p (.raw (.int .i64 3))), .one (.ref 1 2)]) (o1 := [(1, .arr true 2 40 2 (lf Fd.c zw))]) (azs) rfl (by (repeat' apply And.intro) <;> first | trivial | rfl) (CoL.refl _)) (ez.refl _) ⟨⟨_, rfl, (ars (CoP.refl _) (CoP.refl _) (CoP.refl _) (CoP.refl _))⟩, trivial⟩ rfl rfl ?_
 (iterate 5 refine qy ?_); refine a6 ?_; refine sx7 ?_; (iterate 7 refine qy ?_); (iterate 2 refine rq rfl rfl rfl rfl (gtt (c8 rfl rfl)) ?_); (iterate 2 refine qy ?_)
 (iterate 2 refine rq rfl rfl rfl rfl (gtt (c8 (c8 rfl rfl) rfl)) ?_); (iterate 2 refine qy ?_); (iterate 2 refine rq rfl rfl rfl rfl (gtt (c8 (c8 (c8 rfl rfl) rfl) rfl)) ?_)
 refine rc rfl rfl rfl rfl rfl rfl av1 (aw2) (⟨CoC.refl _, CoC.one (a54 (CoP.refl _) (CoP.refl _) (CoP.refl _) (CoP.refl _)), trivial⟩) rfl (gtt (c8 (c8 (c8 rfl rfl) rfl) rfl)) ?_; (iterate 2 refine qy ?_)
 refine rq rfl rfl rfl rfl (gtt (c8 (c8 (c8 (c8 rfl rfl) rfl) rfl) rfl)) ?_; refine rm 2 rfl rfl rfl rfl rfl (gtt (c8 (c8 (c8 (c8 rfl rfl) rfl) rfl) rfl)) ?_
 refine ci rfl rfl rfl rfl rfl rfl av4 (ah.eat (hcs := [.one (.p (asl [3, 6, 9])), .one (.ref 2 3)]) (o1 := [(2, .arr true 1 38 3 (lf sC [3, 6, 9]))]) (amj) rfl (by (repeat' apply And.intro) <;> first | trivial | rfl) (CoL.refl _)) (ez.refl _) ⟨⟨_, rfl, (anc (CoP.refl _) (CoP.refl _) (CoP.refl _))⟩, trivial⟩ rfl (gtt (c8 (c8 (c8 (c8 rfl rfl) rfl) rfl) rfl)) ?_
 (iterate 2 refine qy ?_); (iterate 2 refine rq rfl rfl rfl rfl (gtt (c8 (c8 (c8 (c8 (c8 rfl rfl) rfl) rfl) rfl) rfl)) ?_); (iterate 2 refine qy ?_)
 refine rq rfl rfl rfl rfl (gtt (c8 (c8 (c8 (c8 (c8 (c8 rfl rfl) rfl) rfl) rfl) rfl) rfl)) ?_; (iterate 2 refine qy ?_); refine a6 ?_
 exact hx8 rfl rfl rfl (CoL.refl _)
end Go.Hx
end
section
namespace Go.Hx
open Go.Proofs
theorem au6 {ps : List AS} {k : AS} (h : k ∈ ps) : sub k (orL ps) := cq.2 fun i hi hb => by
 unfold orL
 rw [zx, Bool.or_eq_true]
 exact .inr (List.any_eq_true.2 ⟨k, h, hb⟩)
section
variable {n : Int} {l : List Fd}
end
end Go.Hx
end
section
namespace Go.Hx
def akr (E : Int → Int → Prop) (R : Rw → Prop) (s : AS) : Prop := ∃ r, R r ∧ ∀ i : Nat, i < r.length → cu s (i : Int) = true → E (r.getD i default) (i : Int)
section
variable {N : Nat} {p m : List Fd} {E : Int → Int → Prop} {R : Rw → Prop}
theorem amg {s t : AS} (h : sub s t) {i : Nat} (hi : cu s (i : Int) = true) : cu t (i : Int) = true := by
 by_cases hl : i < 32
 · rw [fy hl] at hi ⊢
   exact cq.1 h i hl hi
 · rw [su (by omega)] at hi
   cases hi
theorem akr.mono {s t : AS} (h : akr E R t) (hs : sub s t) : akr E R s := by
 obtain ⟨r, h1, h2⟩ := h
 exact ⟨r, h1, fun i hi hh => h2 i hi (amg hs hh)⟩
end
section
variable {n : Int} {p m : List Fd} {ps : List AS}
end
end Go.Hx
end
section
namespace Go.Hx
def lvE (n : Int) (ps : List AS) : Int := if n < 0 ∨ 8 < n then 7 else if 64 < ps.length then 3 else if ps.length = 0 ∨ ¬ orL ps = b8 n then 1 else 0
section
variable {n : Int} {ps : List AS} {p m : List Fd}
theorem a8m (h : n < 0 ∨ 8 < n) : lvE n ps = 7 := if_pos h
theorem aph (h : ¬ (n < 0 ∨ 8 < n)) (h2 : 64 < ps.length) : lvE n ps = 3 := by unfold lvE; rw [if_neg h, if_pos h2]
theorem a8s (h : ¬ (n < 0 ∨ 8 < n)) (h2 : ¬ 64 < ps.length) (h3 : ps.length = 0 ∨ ¬ orL ps = b8 n) : lvE n ps = 1 := by unfold lvE; rw [if_neg h, if_neg h2, if_pos h3]
theorem ap0 (h : ¬ (n < 0 ∨ 8 < n)) (h2 : ¬ 64 < ps.length) (h3 : ¬ (ps.length = 0 ∨ ¬ orL ps = b8 n)) : lvE n ps = 0 := by unfold lvE; rw [if_neg h, if_neg h2, if_neg h3]
theorem ku (h : lvE n ps = 0) : 0 ≤ n ∧ n ≤ 8 ∧ ps.length ≤ 64 ∧ 0 < ps.length ∧ orL ps = b8 n := by
 unfold lvE at h
 split at h
 · exact absurd h (by decide)
 · split at h
   · exact absurd h (by decide)
   · split at h
     · exact absurd h (by decide)
     · rename_i h1 h2 h3
       refine ⟨by omega, by omega, by omega, by omega, ?_⟩
       apply Classical.byContradiction
       intro e
       exact h3 (.inr e)
def lsT (n : Int) (ps : List AS) (p m : List Fd) : List St × (Int × List Rw) × Int := fu FU n (ay (bi n ps)) p m
def lsC (n : Int) (ps : List AS) (p m : List Fd) : Int := if lvE n ps = 0 then (if ck n p m = 0 then (lsT n ps p m).2.2 else ck n p m) else lvE n ps
def lsB (n : Int) (ps : List AS) (p m : List Fd) : Bool := decide (lsC n ps p m = 0) && (lsT n ps p m).2.1.2.any fun r => decide (r = d5 n)
theorem apa (h : ¬ lvE n ps = 0) : lsC n ps p m = lvE n ps ∧ lsB n ps p m = false := by
 have e : lsC n ps p m = lvE n ps := if_neg h
 exact ⟨e, by unfold lsB; rw [e, decide_eq_false h]; rfl⟩
theorem ay5 (h : lvE n ps = 0) (h2 : ¬ ck n p m = 0) : lsC n ps p m = ck n p m ∧ lsB n ps p m = false := by
 have e : lsC n ps p m = ck n p m := (if_pos h).trans (if_neg h2)
 exact ⟨e, by unfold lsB; rw [e, decide_eq_false h2]; rfl⟩
theorem agd (h : lvE n ps = 0) (h2 : ck n p m = 0) : lsC n ps p m = (lsT n ps p m).2.2 := (if_pos h).trans (if_pos h2)
theorem zc (h : lsC n ps p m = 0) : lvE n ps = 0 ∧ ck n p m = 0 := by
 unfold lsC at h
 split at h
 · rename_i e
   split at h
   · rename_i e2; exact ⟨e, e2⟩
   · rename_i e2; exact absurd h e2
 · rename_i e; exact absurd h e
theorem abf (h : lvE n ps = 0) {q : AS} (hq : q ∈ ps) : sub q (b8 n) := by
 rw [← (ku h).2.2.2.2]
 exact au6 hq
theorem a9w (h : lvE n ps = 0) : eu n ps = (n, ay (bi n ps), 0) := by
 obtain ⟨h0, h8, h64, _⟩ := ku h
 exact a20 (by omega) (by omega) fun j hj => (aff h0 (by omega)).1 (abf h (d6 hj))
def b0w (n : Int) (p : List Fd) (ps : List AS) : Bool := lsB n ps p [] && !ps.any (qg p)
end
end Go.Hx
end
section
namespace Go.Hx
abbrev tbC (a : Int × List Rw) : Nat → PV := fun j => [.raw (.int .i64 a.1), rl a.2].getD j .any
def lcR (n : Int) (ps : List AS) (p m : List Fd) : (Int × List Rw) × List St × (Int × List Rw) × Int :=
 if lvE n ps = 0 then (if ck n p m = 0 then ((n, ay (bi n ps)), (lsT n ps p m).1, (lsT n ps p m).2.1, (lsT n ps p m).2.2) else ((0, []), [], (0, []), ck n p m)) else ((0, []), [], (0, []), lvE n ps)
section
variable {n : Int} {ps : List AS} {p m : List Fd} {l lend : List Rw}
theorem ays (h : ¬ lvE n ps = 0) : lcR n ps p m = ((0, []), [], (0, []), lvE n ps) := if_neg h
theorem ay9 (h : lvE n ps = 0) (h2 : ¬ ck n p m = 0) : lcR n ps p m = ((0, []), [], (0, []), ck n p m) := (if_pos h).trans (if_neg h2)
theorem ap2 (h : lvE n ps = 0) (h2 : ck n p m = 0) : lcR n ps p m = ((n, ay (bi n ps)), (lsT n ps p m).1, (lsT n ps p m).2.1, (lsT n ps p m).2.2) := (if_pos h).trans (if_pos h2)
theorem sb : (lcR n ps p m).2.2.2 = lsC n ps p m := by
 unfold lcR lsC
 split
 · split <;> rfl
 · rfl
theorem alw (h : (lcR n ps p m).2.2.2 = 0) : ((lcR n ps p m).2.2.1.2.any fun r => decide (r = d5 n)) = lsB n ps p m := by
 have hc := h
 rw [sb] at hc
 obtain ⟨h1, h2⟩ := zc hc
 unfold lsB
 rw [decide_eq_true hc, Bool.true_and, ap2 h1 h2]
theorem anf (h : ¬ (lcR n ps p m).2.2.2 = 0) : lsB n ps p m = false := by
 rw [sb] at h
 unfold lsB
 rw [decide_eq_false h]
 rfl
theorem avj : (bif decide ((lcR n ps p m).2.2.2 = 0) then ((lcR n ps p m).2.2.1.2.any fun r => decide (r = d5 n)) else false) = lsB n ps p m := by
 by_cases h : (lcR n ps p m).2.2.2 = 0
 · rw [decide_eq_true h, cond_true, alw h]
 · rw [decide_eq_false h, cond_false, anf h]
theorem b08 (h : lcR n ps p m = lcR n ps p m) (h2 : (lcR n ps p m).2.2.2 = 0) : 0 ≤ n ∧ n ≤ 8 := by
 rw [sb] at h2
 obtain ⟨h1, _⟩ := zc h2
 exact ⟨(ku h1).1, (ku h1).2.1⟩
theorem apb : ∀ {sts : List St} {l : List Rw} {i : Nat}, TrZ n p m lend l sts → i ≤ sts.length → TrZ n p m lend ((trL n p m l sts).getD i default) (sts.drop i)
 | [], l, 0, h, _ => h
 | s :: r, l, 0, h, _ => h
 | s :: r, l, i + 1, h, hi => by
  obtain ⟨_, _, l', e, _, h⟩ := h
  unfold trL
  rw [e]
  exact apb (i := i) h (by simpa using hi)
theorem a6j : ∀ {sts : List St} {l : List Rw} {i : Nat}, i < sts.length → (trL n p m l sts).getD (i + 1) default = (dg n ((trL n p m l sts).getD i default) p m (sts.getD i default)).2.1
 | [], l, i, hi => by simp at hi
 | s :: r, l, 0, _ => by
  unfold trL
  cases r with
  | nil => rfl
  | cons s2 r2 => rfl
 | s :: r, l, i + 1, hi => by
  unfold trL
  exact a6j (sts := r) (i := i) (by simpa using hi)
theorem arz {sts : List St} : (trL n p m l sts).getD 0 default = l := by cases sts <;> rfl
def j6 (n : Int) (p m : List Fd) (l : List Rw) (sts : List St) : List (Int × List Rw) := (trL n p m l sts).map fun t => (n, t)
theorem a2m {sts : List St} : (j6 n p m l sts).length = sts.length + 1 := by unfold j6; rw [List.length_map, a6n]
theorem arm {sts : List St} {i : Nat} (hi : i ≤ sts.length) : (j6 n p m l sts).getD i default = (n, (trL n p m l sts).getD i default) := by
 unfold j6
 have : i < (trL n p m l sts).length := by rw [a6n]; omega
 rw [List.getD_eq_getElem?_getD, List.getElem?_map, List.getElem?_eq_getElem this, List.getD_eq_getElem?_getD, List.getElem?_eq_getElem this]
 rfl
theorem a83 {sts : List St} {i : Nat} (hi : i < sts.length) : (j6 n p m l sts).take (i + 1 + 1) = (j6 n p m l sts).take (i + 1) ++ [(n, (dg n ((trL n p m l sts).getD i default) p m (sts.getD i default)).2.1)] := by
 rw [br (by rw [a2m]; omega), arm (by omega), a6j hi]
theorem ab5 {sts : List St} : (j6 n p m l sts).take 1 = [(n, l)] := by
 unfold j6
 cases sts <;> rfl
def rcR (n : Int) (ps : List AS) (p m : List Fd) : List St × List (Int × List Rw) × Int :=
 if lsC n ps p m = 0 then ((lsT n ps p m).1, j6 n p m (ay (bi n ps)) (lsT n ps p m).1, 0) else ([], [], lsC n ps p m)
theorem ag1 {c : Int} (h : lsC n ps p m = c) (h2 : ¬ c = 0) : rcR n ps p m = ([], [], c) := by
 unfold rcR
 rw [h, if_neg h2]
theorem a8n (h : lsC n ps p m = 0) : rcR n ps p m = ((lsT n ps p m).1, j6 n p m (ay (bi n ps)) (lsT n ps p m).1, 0) := if_pos h
theorem ajg (h : lvE n ps = 0) (hb : ck n p m = 0) (hc : (lsT n ps p m).2.2 = 0) : ∃ sts lend, lsT n ps p m = (sts, (n, lend), 0) ∧ TrZ n p m lend (ay (bi n ps)) sts ∧ tok n lend = true ∧ ((∃ t, t ∈ trL n p m (ay (bi n ps)) sts ∧ d5 n ∈ t) ↔ d5 n ∈ lend) := by
 rcases a7d (ku h).2.2.1 hb with ⟨e, _⟩ | ⟨sts, lend, e, h1, h2, h3, h4⟩
 · unfold lsT at hc
   rw [e] at hc
   exact absurd hc (by decide)
 · exact ⟨sts, lend, e, h2, h3, h4⟩
theorem ah4 {p m : List Fd} : ∀ (F : Nat) (n : Int) (l : List Rw) (acc : List St), (fe F n l p m acc).1.length ≤ acc.length + F := by
 intro F
 induction F with
 | zero => intro n l acc; unfold fe; simp
 | succ F ih =>
  intro n l acc
  unfold fe
  split
  · simp
  · rename_i s _
    split
    rename_i n' l' e _
    split
    · have := ih n' l' (acc ++ [s])
      simp only [List.length_append, List.length_singleton] at this
      omega
    · simp
theorem adg (h : lvE n ps = 0) (hb : ck n p m = 0) : (lsT n ps p m).1.length ≤ FU := by
 obtain ⟨h0, h8, h64, _⟩ := ku h
 have hT := a4q (ps := ps) h0 (by omega) h64
 have hck : ckE n (ay (bi n ps)) p m = 0 := (if_pos hT).trans hb
 unfold lsT
 rw [oh hck]
 have := ah4 (p := p) (m := m) FU n (ay (bi n ps)) []
 simpa using this
def a6h (n : Int) (t : List Rw) : Bool := t.any fun r => decide (r = d5 n)
def prX (n : Int) (ps : List AS) (p m : List Fd) : Int := idx (fun a : Int × List Rw => a6h n a.2) (rcR n ps p m).2.1
def prC (n : Int) (ps : List AS) (p m : List Fd) : Int := if (rcR n ps p m).2.2 = 0 then (if prX n ps p m < 0 then 11 else 0) else (rcR n ps p m).2.2
def prS (n : Int) (ps : List AS) (p m : List Fd) : List St := if (rcR n ps p m).2.2 = 0 then (if prX n ps p m < 0 then [] else (rcR n ps p m).1.take (prX n ps p m).toNat) else []
theorem xh : (rcR n ps p m).2.2 = lsC n ps p m := by
 unfold rcR
 split
 · rename_i h; exact h.symm
 · rfl
theorem aif : ¬ lsC n ps p m = 11 := by
 intro h
 unfold lsC at h
 split at h
 · rename_i hv
   split at h
   · rename_i hb
     rcases a7d (ku hv).2.2.1 hb with ⟨e, _⟩ | ⟨sts, lend, e, _⟩
     · unfold lsT at h; rw [e] at h; exact absurd h (by decide)
     · unfold lsT at h; rw [e] at h; exact absurd (show (0 : Int) = 11 from h) (by decide)
   · unfold ck az at h
     (repeat' split at h) <;> omega
 · unfold lvE at h
   (repeat' split at h) <;> omega
theorem ad5 (hc : lsC n ps p m = 0) : (0 ≤ prX n ps p m) ↔ lsB n ps p m = true := by
 obtain ⟨h1, h2⟩ := zc hc
 have hc2 : (lsT n ps p m).2.2 = 0 := (agd h1 h2).symm.trans hc
 obtain ⟨sts, lend, e, _, _, h3⟩ := ajg h1 h2 hc2
 have e1 : lsB n ps p m = decide (d5 n ∈ lend) := by
  unfold lsB
  rw [decide_eq_true hc, Bool.true_and, e]
  exact yy
 have e2 : (rcR n ps p m).2.1 = j6 n p m (ay (bi n ps)) sts := by rw [a8n hc, e]
 have e3 : (j6 n p m (ay (bi n ps)) sts).any (fun a => a6h n a.2) = decide (0 ≤ prX n ps p m) := by
  unfold prX
  rw [e2]
  exact zm.symm
 rw [e1, decide_eq_true_iff, ← h3, ← decide_eq_true_iff (p := 0 ≤ prX n ps p m), ← e3, List.any_eq_true]
 unfold j6 a6h
 constructor
 · rintro ⟨x, hx, h⟩
   obtain ⟨t, ht, rfl⟩ := List.mem_map.1 hx
   exact ⟨t, ht, by rw [yy] at h; exact of_decide_eq_true h⟩
 · rintro ⟨t, ht, h⟩
   exact ⟨(n, t), List.mem_map.2 ⟨t, ht, rfl⟩, by rw [yy]; exact decide_eq_true h⟩
theorem ayh (h : prC n ps p m = 11) : lsB n ps p m = false ∧ lsC n ps p m = 0 := by
 unfold prC at h
 rw [xh] at h
 split at h
 · rename_i hc
   split at h
   · rename_i hx
     refine ⟨?_, hc⟩
     rw [Bool.eq_false_iff]
     intro e
     have := (ad5 hc).2 e
     omega
   · exact absurd h (by decide)
 · exact absurd h aif
theorem aza (h : ¬ prC n ps p m = 11) : decide (prC n ps p m = 0) = lsB n ps p m ∧ prC n ps p m = lsC n ps p m := by
 unfold prC at h ⊢
 rw [xh] at h ⊢
 split at h
 · rename_i hc
   split at h
   · exact absurd rfl h
   · rename_i hx
     rw [if_pos hc, if_neg hx, hc]
     refine ⟨?_, rfl⟩
     have := (ad5 hc).1 (by omega)
     rw [this]
     rfl
 · rename_i hc
   rw [if_neg hc]
   refine ⟨?_, rfl⟩
   unfold lsB
   rw [decide_eq_false hc]
   rfl
end
end Go.Hx
end
section
namespace Go.Hx
open Go.Proofs
theorem aws {n : Int} {ps : List AS} {p m : List Fd} (h : lvE n ps = 0) (hb : ck n p m = 0) (hc : (lsT n ps p m).2.2 = 0) : TrZ n p m (lsT n ps p m).2.1.2 (ay (bi n ps)) (lsT n ps p m).1 := by
 obtain ⟨sts, lend, e, htr, _⟩ := ajg h hb hc
 rw [e]
 exact htr
theorem aus {n : Int} {ps : List AS} {p m : List Fd} (h : (rcR n ps p m).2.2 = 0) : (rcR n ps p m).2.1.length = (rcR n ps p m).1.length + 1 := by
 rw [xh] at h
 rw [a8n h]
 exact a2m
theorem b0b {n : Int} {ps : List AS} {p m : List Fd} (h : (rcR n ps p m).2.2 = 0) : 0 ≤ n ∧ n ≤ 16 ∧ (rcR n ps p m).1.length ≤ FU := by
 rw [xh] at h
 obtain ⟨h1, h2⟩ := zc h
 rw [a8n h]
 have := ku h1
 exact ⟨this.1, by omega, adg h1 h2⟩
theorem asn {n : Int} {l : List Rw} {T : List (Int × List Rw)} {e : TypeId} {N : Nat} {f : Nat → Nat → PV} (h : T = [(n, l)]) (hN : N = 1) (h0 : CoP (f 0 0) (.raw (.int .i64 n))) (h1 : CoP (f 0 1) (rl l)) : CoO (.arr true 2 e N f) (.arr true 2 e T.length (lf tbC T)) := by
 subst h hN
 refine ⟨fun h => h, rfl, rfl, rfl, fun a j ha hj => ?_⟩
 have ha : a = 0 := by
  have : a < 1 := ha
  omega
 subst ha
 match j, hj with
 | 0, _ => exact h0
 | 1, _ => exact h1
theorem anl {n : Nat} {l : List St} {i : Nat} {cl : Bool} (hn : n = (l.take i).length) {f : Nat → Nat → PV} (hf : ∀ a j, f a j = lf St.c l a j) : CoP (.sl n 4 cl f) (stl (l.take i)) := by
 refine CoP.sl hn.symm (.inl rfl) (fun h => by cases h) fun a j ha hj => CoP.of_eq ?_
 rw [hf]
 show St.c (l.getD a default) j = St.c ((l.take i).getD a default) j
 have : a < i := by rw [hn, List.length_take] at ha; omega
 rw [List.getD_eq_getElem?_getD, List.getD_eq_getElem?_getD, List.getElem?_take, if_pos this]
theorem aro (n : Int) (ps : List AS) (h : lvE n ps = 0) : ah Tryz.prog 148 [pI n, pP (asl ps)] (ap [pT n (ay (bi n ps)), pI 0]) := by
 have := axg n ps
 rw [a9w h] at this
 exact this
theorem ana (n : Int) (ps : List AS) (h : lvE n ps = 0) : ah Tryz.prog 144 [pI n, pP (asl ps)] (ap [pT n (ay (bi n ps)), pI 0]) := by
 have := ar7 n ps
 rw [a9w h] at this
 exact this
theorem aq8 (n : Int) (ps : List AS) (p m : List Fd) : ah Tryz.prog 149 [pT n (ay (bi n ps)), pP (fdl p), pP (fdl m)] (ap [pP (stl (lsT n ps p m).1), pT (lsT n ps p m).2.1.1 (lsT n ps p m).2.1.2, pI (lsT n ps p m).2.2]) :=
 awu FU n (ay (bi n ps)) p m (fun h => a95 h) (by decide)
theorem aom (n : Int) (ps : List AS) (p m : List Fd) : ah Tryz.prog 145 [pT n (ay (bi n ps)), pP (fdl p), pP (fdl m)] (ap [pP (stl (lsT n ps p m).1), pT (lsT n ps p m).2.1.1 (lsT n ps p m).2.1.2, pI (lsT n ps p m).2.2]) :=
 asi FU n (ay (bi n ps)) p m (fun h => a95 h) (by decide)
theorem aic (n : Int) (l : List Rw) (p m : List Fd) (s : St) (hT : tok n l = true) (hb : ck n p m = 0) (h : tw l p m s) (he : dg n l p m s = (n, (dg n l p m s).2.1, 0)) : ah Tryz.prog 146 [pT n l, pP (fdl p), pP (fdl m), s.pc] (ap [pT n (dg n l p m s).2.1, pI 0]) := by
 have := a8c n l p m s ((if_pos hT).trans hb) h
 rw [he] at this
 exact this
theorem az7 {n : Int} {p m : List Fd} {l lend : List Rw} {sts : List St} {i : Nat} (hi : i < sts.length) (h : TrZ n p m lend l (sts.drop i)) : tok n l = true ∧ tw l p m (sts.getD i default) ∧ dg n l p m (sts.getD i default) = (n, (dg n l p m (sts.getD i default)).2.1, 0) := by
 have e : sts.drop i = sts.getD i default :: sts.drop (i + 1) := by
  rw [List.drop_eq_getElem_cons hi, List.getD_eq_getElem?_getD, List.getElem?_eq_getElem hi]; rfl
 rw [e] at h
 obtain ⟨h1, h2, l', h3, h4, h5⟩ := h
 rw [h3]
 exact ⟨h1, h2, rfl⟩
end Go.Hx
end
