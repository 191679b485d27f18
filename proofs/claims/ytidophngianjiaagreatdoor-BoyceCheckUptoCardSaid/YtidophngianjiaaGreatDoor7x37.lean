/- A part of the proof: Ls5 W0 W1 Ls6 W2 W2a. -/
import Derived.Test.YtidophngianjiaaGreatDoor7x17
import Derived.Test.YtidophngianjiaaGreatDoor7x21
import Derived.Test.YtidophngianjiaaGreatDoor7x22
import Derived.Test.YtidophngianjiaaGreatDoor7x25
import Derived.Test.YtidophngianjiaaGreatDoor7x33
import Derived.Test.YtidophngianjiaaGreatDoor7x35
import Derived.Test.YtidophngianjiaaGreatDoor7x36
set_option linter.all false
section
namespace Go.Hx
abbrev tbC (a : Int × List Rw) : Nat → PV := fun j => [.raw (.int .i64 a.1), rl a.2].getD j .any
def lcR (n : Int) (ps : List AS) (p m : List Fd) : (Int × List Rw) × List St × (Int × List Rw) × Int :=
 if lvE n ps = 0 then (if ck n p m = 0 then ((n, ax (bi n ps)), (lsT n ps p m).1, (lsT n ps p m).2.1, (lsT n ps p m).2.2) else ((0, []), [], (0, []), ck n p m)) else ((0, []), [], (0, []), lvE n ps)
section
variable {n : Int} {ps : List AS} {p m : List Fd} {l lend : List Rw}
theorem b0q (h : ¬ lvE n ps = 0) : lcR n ps p m = ((0, []), [], (0, []), lvE n ps) := if_neg h
theorem b0b (h : lvE n ps = 0) (h2 : ¬ ck n p m = 0) : lcR n ps p m = ((0, []), [], (0, []), ck n p m) := (if_pos h).trans (if_neg h2)
theorem ar2 (h : lvE n ps = 0) (h2 : ck n p m = 0) : lcR n ps p m = ((n, ax (bi n ps)), (lsT n ps p m).1, (lsT n ps p m).2.1, (lsT n ps p m).2.2) := (if_pos h).trans (if_pos h2)
theorem s7 : (lcR n ps p m).2.2.2 = lsC n ps p m := by
 unfold lcR lsC
 split
 · split <;> rfl
 · rfl
theorem aoa (h : (lcR n ps p m).2.2.2 = 0) : ((lcR n ps p m).2.2.1.2.any fun r => decide (r = cz n)) = lsB n ps p m := by
 have hc := h
 rw [s7] at hc
 obtain ⟨h1, h2⟩ := a3x hc
 unfold lsB
 rw [decide_eq_true hc, Bool.true_and, ar2 h1 h2]
theorem aq5 (h : ¬ (lcR n ps p m).2.2.2 = 0) : lsB n ps p m = false := by
 rw [s7] at h
 unfold lsB
 rw [decide_eq_false h]
 rfl
theorem awv : (bif decide ((lcR n ps p m).2.2.2 = 0) then ((lcR n ps p m).2.2.1.2.any fun r => decide (r = cz n)) else false) = lsB n ps p m := by
 by_cases h : (lcR n ps p m).2.2.2 = 0
 · rw [decide_eq_true h, cond_true, aoa h]
 · rw [decide_eq_false h, cond_false, aq5 h]
theorem b22 (h : lcR n ps p m = lcR n ps p m) (h2 : (lcR n ps p m).2.2.2 = 0) : 0 ≤ n ∧ n ≤ 8 := by
 rw [s7] at h2
 obtain ⟨h1, _⟩ := a3x h2
 exact ⟨(ou h1).1, (ou h1).2.1⟩
theorem ari : ∀ {sts : List St} {l : List Rw} {i : Nat}, TrZ n p m lend l sts → i ≤ sts.length → TrZ n p m lend ((trL n p m l sts).getD i default) (sts.drop i)
 | [], l, 0, h, _ => h
 | s :: r, l, 0, h, _ => h
 | s :: r, l, i + 1, h, hi => by
  obtain ⟨_, _, l', e, _, h⟩ := h
  unfold trL
  rw [e]
  exact ari (i := i) h (by simpa using hi)
theorem a5a : ∀ {sts : List St} {l : List Rw} {i : Nat}, i < sts.length → (trL n p m l sts).getD (i + 1) default = (d8 n ((trL n p m l sts).getD i default) p m (sts.getD i default)).2.1
 | [], l, i, hi => by simp at hi
 | s :: r, l, 0, _ => by
  unfold trL
  cases r with
  | nil => rfl
  | cons s2 r2 => rfl
 | s :: r, l, i + 1, hi => by
  unfold trL
  exact a5a (sts := r) (i := i) (by simpa using hi)
theorem ate {sts : List St} : (trL n p m l sts).getD 0 default = l := by cases sts <;> rfl
def j4 (n : Int) (p m : List Fd) (l : List Rw) (sts : List St) : List (Int × List Rw) := (trL n p m l sts).map fun t => (n, t)
theorem a1g {sts : List St} : (j4 n p m l sts).length = sts.length + 1 := by unfold j4; rw [List.length_map, a4d]
theorem asm {sts : List St} {i : Nat} (hi : i ≤ sts.length) : (j4 n p m l sts).getD i default = (n, (trL n p m l sts).getD i default) := by
 unfold j4
 have : i < (trL n p m l sts).length := by rw [a4d]; omega
 rw [List.getD_eq_getElem?_getD, List.getElem?_map, List.getElem?_eq_getElem this, List.getD_eq_getElem?_getD, List.getElem?_eq_getElem this]
 rfl
theorem a6q {sts : List St} {i : Nat} (hi : i < sts.length) : (j4 n p m l sts).take (i + 1 + 1) = (j4 n p m l sts).take (i + 1) ++ [(n, (d8 n ((trL n p m l sts).getD i default) p m (sts.getD i default)).2.1)] := by
 rw [cr (by rw [a1g]; omega), asm (by omega), a5a hi]
theorem aab {sts : List St} : (j4 n p m l sts).take 1 = [(n, l)] := by
 unfold j4
 cases sts <;> rfl
def rcR (n : Int) (ps : List AS) (p m : List Fd) : List St × List (Int × List Rw) × Int :=
 if lsC n ps p m = 0 then ((lsT n ps p m).1, j4 n p m (ax (bi n ps)) (lsT n ps p m).1, 0) else ([], [], lsC n ps p m)
theorem adu {c : Int} (h : lsC n ps p m = c) (h2 : ¬ c = 0) : rcR n ps p m = ([], [], c) := by
 unfold rcR
 rw [h, if_neg h2]
theorem a7k (h : lsC n ps p m = 0) : rcR n ps p m = ((lsT n ps p m).1, j4 n p m (ax (bi n ps)) (lsT n ps p m).1, 0) := if_pos h
theorem aio (h : lvE n ps = 0) (hb : ck n p m = 0) (hc : (lsT n ps p m).2.2 = 0) : ∃ sts lend, lsT n ps p m = (sts, (n, lend), 0) ∧ TrZ n p m lend (ax (bi n ps)) sts ∧ tok n lend = true ∧ ((∃ t, t ∈ trL n p m (ax (bi n ps)) sts ∧ cz n ∈ t) ↔ cz n ∈ lend) := by
 rcases a6l (ou h).2.2.1 hb with ⟨e, _⟩ | ⟨sts, lend, e, h1, h2, h3, h4⟩
 · unfold lsT at hc
   rw [e] at hc
   exact absurd hc (by decide)
 · exact ⟨sts, lend, e, h2, h3, h4⟩
theorem alu {p m : List Fd} : ∀ (F : Nat) (n : Int) (l : List Rw) (acc : List St), (fm F n l p m acc).1.length ≤ acc.length + F := by
 intro F
 induction F with
 | zero => intro n l acc; unfold fm; simp
 | succ F ih =>
  intro n l acc
  unfold fm
  split
  · simp
  · rename_i s _
    split
    rename_i n' l' e _
    split
    · have := ih n' l' (acc ++ [s])
      simp only [List.length_append, List.length_singleton] at this
      omega
    · simp
theorem acp (h : lvE n ps = 0) (hb : ck n p m = 0) : (lsT n ps p m).1.length ≤ FU := by
 obtain ⟨h0, h8, h64, _⟩ := ou h
 have hT := a36 (ps := ps) h0 (by omega) h64
 have hck : ckE n (ax (bi n ps)) p m = 0 := (if_pos hT).trans hb
 unfold lsT
 rw [o6 hck]
 have := alu (p := p) (m := m) FU n (ax (bi n ps)) []
 simpa using this
def a5t (n : Int) (t : List Rw) : Bool := t.any fun r => decide (r = cz n)
def prX (n : Int) (ps : List AS) (p m : List Fd) : Int := idx (fun a : Int × List Rw => a5t n a.2) (rcR n ps p m).2.1
def prC (n : Int) (ps : List AS) (p m : List Fd) : Int := if (rcR n ps p m).2.2 = 0 then (if prX n ps p m < 0 then 11 else 0) else (rcR n ps p m).2.2
def prS (n : Int) (ps : List AS) (p m : List Fd) : List St := if (rcR n ps p m).2.2 = 0 then (if prX n ps p m < 0 then [] else (rcR n ps p m).1.take (prX n ps p m).toNat) else []
theorem w7 : (rcR n ps p m).2.2 = lsC n ps p m := by
 unfold rcR
 split
 · rename_i h; exact h.symm
 · rfl
theorem agi : ¬ lsC n ps p m = 11 := by
 intro h
 unfold lsC at h
 split at h
 · rename_i hv
   split at h
   · rename_i hb
     rcases a6l (ou hv).2.2.1 hb with ⟨e, _⟩ | ⟨sts, lend, e, _⟩
     · unfold lsT at h; rw [e] at h; exact absurd h (by decide)
     · unfold lsT at h; rw [e] at h; exact absurd (show (0 : Int) = 11 from h) (by decide)
   · unfold ck ca at h
     (repeat' split at h) <;> omega
 · unfold lvE at h
   (repeat' split at h) <;> omega
theorem adr (hc : lsC n ps p m = 0) : (0 ≤ prX n ps p m) ↔ lsB n ps p m = true := by
 obtain ⟨h1, h2⟩ := a3x hc
 have hc2 : (lsT n ps p m).2.2 = 0 := (af4 h1 h2).symm.trans hc
 obtain ⟨sts, lend, e, _, _, h3⟩ := aio h1 h2 hc2
 have e1 : lsB n ps p m = decide (cz n ∈ lend) := by
  unfold lsB
  rw [decide_eq_true hc, Bool.true_and, e]
  exact yf
 have e2 : (rcR n ps p m).2.1 = j4 n p m (ax (bi n ps)) sts := by rw [a7k hc, e]
 have e3 : (j4 n p m (ax (bi n ps)) sts).any (fun a => a5t n a.2) = decide (0 ≤ prX n ps p m) := by
  unfold prX
  rw [e2]
  exact ya.symm
 rw [e1, decide_eq_true_iff, ← h3, ← decide_eq_true_iff (p := 0 ≤ prX n ps p m), ← e3, List.any_eq_true]
 unfold j4 a5t
 constructor
 · rintro ⟨x, hx, h⟩
   obtain ⟨t, ht, rfl⟩ := List.mem_map.1 hx
   exact ⟨t, ht, by rw [yf] at h; exact of_decide_eq_true h⟩
 · rintro ⟨t, ht, h⟩
   exact ⟨(n, t), List.mem_map.2 ⟨t, ht, rfl⟩, by rw [yf]; exact decide_eq_true h⟩
theorem b0s (h : prC n ps p m = 11) : lsB n ps p m = false ∧ lsC n ps p m = 0 := by
 unfold prC at h
 rw [w7] at h
 split at h
 · rename_i hc
   split at h
   · rename_i hx
     refine ⟨?_, hc⟩
     rw [Bool.eq_false_iff]
     intro e
     have := (adr hc).2 e
     omega
   · exact absurd h (by decide)
 · exact absurd h agi
theorem b0z (h : ¬ prC n ps p m = 11) : decide (prC n ps p m = 0) = lsB n ps p m ∧ prC n ps p m = lsC n ps p m := by
 unfold prC at h ⊢
 rw [w7] at h ⊢
 split at h
 · rename_i hc
   split at h
   · exact absurd rfl h
   · rename_i hx
     rw [if_pos hc, if_neg hx, hc]
     refine ⟨?_, rfl⟩
     have := (adr hc).1 (by omega)
     rw [this]
     rfl
 · rename_i hc
   rw [if_neg hc]
   refine ⟨?_, rfl⟩
   unfold lsB
   rw [decide_eq_false hc]
   rfl
end
end Go.Hx
end
section
namespace Go.Hx
open Go.Proofs
theorem ayo {n : Int} {ps : List AS} {p m : List Fd} (h : lvE n ps = 0) (hb : ck n p m = 0) (hc : (lsT n ps p m).2.2 = 0) : TrZ n p m (lsT n ps p m).2.1.2 (ax (bi n ps)) (lsT n ps p m).1 := by
 obtain ⟨sts, lend, e, htr, _⟩ := aio h hb hc
 rw [e]
 exact htr
theorem ax4 {n : Int} {ps : List AS} {p m : List Fd} (h : (rcR n ps p m).2.2 = 0) : (rcR n ps p m).2.1.length = (rcR n ps p m).1.length + 1 := by
 rw [w7] at h
 rw [a7k h]
 exact a1g
theorem b1h {n : Int} {ps : List AS} {p m : List Fd} (h : (rcR n ps p m).2.2 = 0) : 0 ≤ n ∧ n ≤ 16 ∧ (rcR n ps p m).1.length ≤ FU := by
 rw [w7] at h
 obtain ⟨h1, h2⟩ := a3x h
 rw [a7k h]
 have := ou h1
 exact ⟨this.1, by omega, acp h1 h2⟩
theorem avk {n : Int} {l : List Rw} {T : List (Int × List Rw)} {e : TypeId} {N : Nat} {f : Nat → Nat → PV} (h : T = [(n, l)]) (hN : N = 1) (h0 : CoP (f 0 0) (.raw (.int .i64 n))) (h1 : CoP (f 0 1) (rl l)) : CoO (.arr true 2 e N f) (.arr true 2 e T.length (lf tbC T)) := by
 subst h hN
 refine ⟨fun h => h, rfl, rfl, rfl, fun a j ha hj => ?_⟩
 have ha : a = 0 := by
  have : a < 1 := ha
  omega
 subst ha
 match j, hj with
 | 0, _ => exact h0
 | 1, _ => exact h1
theorem aqi {n : Nat} {l : List St} {i : Nat} {cl : Bool} (hn : n = (l.take i).length) {f : Nat → Nat → PV} (hf : ∀ a j, f a j = lf St.c l a j) : CoP (.sl n 4 cl f) (stl (l.take i)) := by
 refine CoP.sl hn.symm (.inl rfl) (fun h => by cases h) fun a j ha hj => CoP.of_eq ?_
 rw [hf]
 show St.c (l.getD a default) j = St.c ((l.take i).getD a default) j
 have : a < i := by rw [hn, List.length_take] at ha; omega
 rw [List.getD_eq_getElem?_getD, List.getD_eq_getElem?_getD, List.getElem?_take, if_pos this]
theorem as0 (n : Int) (ps : List AS) (h : lvE n ps = 0) : aj Tryz.prog 148 [pI n, pP (asl ps)] (aq [pT n (ax (bi n ps)), pI 0]) := by
 have := ay6 n ps
 rw [aa1 h] at this
 exact this
theorem aou (n : Int) (ps : List AS) (h : lvE n ps = 0) : aj Tryz.prog 144 [pI n, pP (asl ps)] (aq [pT n (ax (bi n ps)), pI 0]) := by
 have := au5 n ps
 rw [aa1 h] at this
 exact this
theorem avu (n : Int) (ps : List AS) (p m : List Fd) : aj Tryz.prog 149 [pT n (ax (bi n ps)), pP (fdl p), pP (fdl m)] (aq [pP (stl (lsT n ps p m).1), pT (lsT n ps p m).2.1.1 (lsT n ps p m).2.1.2, pI (lsT n ps p m).2.2]) :=
 axs FU n (ax (bi n ps)) p m (fun h => a9r h) (by decide)
theorem amc (n : Int) (ps : List AS) (p m : List Fd) : aj Tryz.prog 145 [pT n (ax (bi n ps)), pP (fdl p), pP (fdl m)] (aq [pP (stl (lsT n ps p m).1), pT (lsT n ps p m).2.1.1 (lsT n ps p m).2.1.2, pI (lsT n ps p m).2.2]) :=
 avd FU n (ax (bi n ps)) p m (fun h => a9r h) (by decide)
theorem am9 (n : Int) (l : List Rw) (p m : List Fd) (s : St) (hT : tok n l = true) (hb : ck n p m = 0) (h : u5 l p m s) (he : d8 n l p m s = (n, (d8 n l p m s).2.1, 0)) : aj Tryz.prog 146 [pT n l, pP (fdl p), pP (fdl m), s.pc] (aq [pT n (d8 n l p m s).2.1, pI 0]) := by
 have := a6t n l p m s ((if_pos hT).trans hb) h
 rw [he] at this
 exact this
theorem azi {n : Int} {p m : List Fd} {l lend : List Rw} {sts : List St} {i : Nat} (hi : i < sts.length) (h : TrZ n p m lend l (sts.drop i)) : tok n l = true ∧ u5 l p m (sts.getD i default) ∧ d8 n l p m (sts.getD i default) = (n, (d8 n l p m (sts.getD i default)).2.1, 0) := by
 have e : sts.drop i = sts.getD i default :: sts.drop (i + 1) := by
  rw [List.drop_eq_getElem_cons hi, List.getD_eq_getElem?_getD, List.getElem?_eq_getElem hi]; rfl
 rw [e] at h
 obtain ⟨h1, h2, l', h3, h4, h5⟩ := h
 rw [h3]
 exact ⟨h1, h2, rfl⟩
end Go.Hx
end
section
namespace Go.Hx
open Go.Proofs
set_option maxRecDepth 100000
set_option maxHeartbeats 1000000
theorem auy : goodFn Tryz.prog 131 := ⟨Tryz.f131, Tryz.func131, by kernel_rfl, by kernel_rfl⟩
theorem ayw (ps : List AS) : aj Tryz.prog 131 [pP (asl ps)] (aq [pA (orL ps)]) := by
 refine ag (nt := 17) af Tryz.func131 rfl rfl l9 ?_; refine sx7 ?_; refine qy ?_; refine a6 ?_; refine sx7 ?_; refine qy ?_; refine a6 ?_; (iterate 2 refine a7 ?_)
 refine ce 0 rfl fun hn => ?_
 refine gy ?_; (iterate 3 refine qy ?_); refine a6 ?_; refine ae ?_
 refine ak (ι := Nat) ⟨[(6, some _), (7, some _)], []⟩ ⟨⟨c9, c9, trivial⟩, trivial⟩ (fun i => ⟨[(3, some (vA (orL (ps.take i)))), (8, some (vI i))], []⟩) (fun i => i ≤ ps.length) (fun i => ps.length - i) (0) (Nat.zero_le _) ⟨⟨⟨_, rfl, (CoR.refl _)⟩, zy, trivial⟩, trivial⟩ ?_
 rintro i hi
 refine sx7 ?_; refine qy ?_; refine a6 ?_; refine a7 ?_; refine a8 _ rfl (fun r0 => ?_) (fun r0 => ?_)
 ·
  have h0 := of_decide_eq_true r0
  try simp only [ty] at h0
  refine aa ?_; refine a7 ?_; refine ae ?_; refine sx7 ?_; (iterate 3 refine qy ?_); refine a6 ?_; refine gy ?_; (iterate 4 refine qy ?_); refine a6 ?_; refine gy ?_; (iterate 2 refine qy ?_)
  refine a6 ?_; refine ⟨i + 1, ?_, ?_, ?_⟩
  · show i + 1 ≤ _; omega
  · first | omega | (dsimp only; omega)
  · exact ⟨⟨⟨_, rfl, (n7 (by rw [bOr, a1j (by omega)]; rfl))⟩, zy, c9, c9, trivial⟩, trivial⟩
 ·
  have h0 := of_decide_eq_false r0
  try simp only [ty] at h0
  obtain rfl : i = ps.length := by omega
  refine am ?_; refine sx7 ?_; (iterate 2 refine qy ?_); refine a6 ?_
  exact hx8 rfl rfl rfl (⟨cci (by rw [List.take_length]), trivial⟩)
theorem axo : goodFn Tryz.prog 83 := ⟨Tryz.f83, Tryz.func83, by kernel_rfl, by kernel_rfl⟩
theorem aty (n : Int) (ps : List AS) : aj Tryz.prog 83 [pI n, pP (asl ps)] (aq [pI (lvE n ps)]) := by
 refine ag (nt := 28) af Tryz.func83 rfl rfl l9 ?_; refine sx7 ?_; refine qy ?_; refine a6 ?_; refine a7 ?_; refine ae ?_; refine sx7 ?_; (iterate 3 refine qy ?_)
 refine bh rfl rfl (fun r0 => ?_) (fun r0 => ?_)
 ·
  have h0 := of_decide_eq_true r0
  try simp only [ty] at h0
  (iterate 2 refine k9 (gtf r0) ?_); refine rq rfl rfl rfl rfl rfl ?_ (hp := r0); refine qy ?_; refine a6 ?_; refine a8 _ rfl (fun _ => ?_) (fun e => by cases e); refine sx7 ?_; refine qy ?_; refine a6 ?_
  exact hx8 rfl rfl rfl (⟨cci (a7h (by omega)).symm, trivial⟩)
 ·
  have h0 := of_decide_eq_false r0
  try simp only [ty] at h0
  (iterate 2 refine qy ?_ (hg := (gff r0))); (iterate 2 refine qy ?_); refine a6 ?_; refine a8 _ rfl (fun r1 => ?_) (fun r1 => ?_)
  ·
   have h1 := r1
   have h1 := bo r0 h1
   have h1 := of_decide_eq_true h1
   try simp only [ty] at h1
   refine sx7 ?_; refine qy ?_; refine a6 ?_
   exact hx8 rfl rfl rfl (⟨cci (a7h (by omega)).symm, trivial⟩)
  ·
   have h1 := r1
   have h1 := bo r0 h1
   have h1 := of_decide_eq_false h1
   try simp only [ty] at h1
   have hz0 : 0 ≤ n := by omega
   have hz1 : n ≤ 16 := by omega
   refine sx7 ?_; (iterate 4 refine qy ?_); refine a6 ?_; refine a8 _ rfl (fun r2 => ?_) (fun r2 => ?_)
   ·
    have h2 := of_decide_eq_true r2
    try simp only [ty] at h2
    refine sx7 ?_; refine qy ?_; refine a6 ?_
    exact hx8 rfl rfl rfl (⟨cci (ard (by omega) (by omega)).symm, trivial⟩)
   ·
    have h2 := of_decide_eq_false r2
    try simp only [ty] at h2
    refine a7 ?_; refine ay (E := b6) af au [0, 1, 2, 3, 4, 5, 6, 7, 8, 9, 10, 11] ?_; (iterate 4 refine qy ?_); refine bh rfl rfl (fun r3 => ?_) (fun r3 => ?_)
    ·
     have h3 := of_decide_eq_true r3
     try simp only [ty] at h3
     (iterate 6 refine k9 (gtf r3) ?_); refine rq rfl rfl rfl rfl rfl ?_ (hp := r3); refine qy ?_; refine a6 ?_; refine ⟨by kernel_rfl, ?_⟩; refine a8 _ rfl (fun _ => ?_) (fun e => by cases e); refine sx7 ?_
     refine qy ?_; refine a6 ?_
     exact hx8 rfl rfl rfl (⟨cci (a7o (by omega) (by omega) (by first | exact .inl (by omega) | exact .inr (fun e => absurd (show asI (orL ps) = IntKind.wrap .u32 (1 * 2 ^ (min n.toNat 32)) - 1 by rw [s5 hz0 hz1, e]) (by assumption)))).symm, trivial⟩)
    ·
     have h3 := of_decide_eq_false r3
     try simp only [ty] at h3
     refine qy ?_ (hg := (gff r3)); refine rc rfl rfl rfl rfl rfl rfl auy (ayw ps) (CoL.refl _) rfl (gff r3) ?_; (iterate 2 refine qy ?_ (hg := (gff r3)))
     refine rq rfl rfl rfl rfl (gff r3) ?_ (hp := ⟨a2e hz0 hz1, xq hz0 hz1⟩); refine qy ?_ (hg := (gff r3)); (iterate 2 refine qy ?_); refine a6 ?_; refine ⟨by kernel_rfl, ?_⟩
     refine a8 _ rfl (fun r4 => ?_) (fun r4 => ?_)
     ·
      have h4 := r4
      have h4 := bo r3 h4
      have h4 := of_decide_eq_false (az h4)
      try simp only [ty] at h4
      refine sx7 ?_; refine qy ?_; refine a6 ?_
      exact hx8 rfl rfl rfl (⟨cci (a7o (by omega) (by omega) (by first | exact .inl (by omega) | exact .inr (fun e => absurd (show asI (orL ps) = IntKind.wrap .u32 (1 * 2 ^ (min n.toNat 32)) - 1 by rw [s5 hz0 hz1, e]) (by assumption)))).symm, trivial⟩)
     ·
      have h4 := r4
      have h4 := bo r3 h4
      have h4 := of_decide_eq_true (b4 h4)
      try simp only [ty] at h4
      refine aa ?_; refine sx7 ?_; refine qy ?_; refine a6 ?_; refine ap ?_; refine ⟨.inr rfl, ?_⟩
      exact ⟨_, _, _, _, rfl, (by (repeat' apply And.intro) <;> first | trivial | exact Nat.le_of_ble_eq_true rfl | rfl), rfl, (by (repeat' apply And.intro) <;> first | trivial | exact Nat.le_of_ble_eq_true rfl | rfl), ⟨cci (arx (by omega) (by omega) (fun e => by
       rcases e with e | e
       · omega
       · exact e (d6.1 ((by assumption : asI (orL ps) = IntKind.wrap .u32 (1 * 2 ^ (min n.toNat 32)) - 1).trans (s5 hz0 hz1))))).symm, trivial⟩⟩
theorem azb : goodFn Tryz.prog 98 := ⟨Tryz.f98, Tryz.func98, by kernel_rfl, by kernel_rfl⟩
theorem aux (n : Int) (ps : List AS) (p m : List Fd) : aj Tryz.prog 98 [pI n, pP (asl ps), pP (fdl p), pP (fdl m)] (aq [pT (lcR n ps p m).1.1 (lcR n ps p m).1.2, pP (stl (lcR n ps p m).2.1), pT (lcR n ps p m).2.2.1.1 (lcR n ps p m).2.2.1.2, pI (lcR n ps p m).2.2.2]) := by
 refine ag (nt := 58) af Tryz.func98 rfl rfl l9 ?_; refine sx7 ?_; refine m9 0 ?_; refine qy ?_; refine m9 1 ?_; refine qy ?_; refine a6 ?_; refine a7 ?_; refine sx7 ?_; (iterate 2 refine qy ?_)
 refine rc rfl rfl rfl rfl rfl rfl axo (aty n ps) (CoL.refl _) rfl rfl ?_; refine qy ?_; refine a6 ?_; refine sx7 ?_; (iterate 2 refine qy ?_); refine a6 ?_; refine a8 _ rfl (fun r0 => ?_) (fun r0 => ?_)
 ·
  have h0 := r0
  have h0 := of_decide_eq_false (az h0)
  try simp only [ty] at h0
  refine sx7 ?_; (iterate 3 refine qy ?_); refine s9 ?_; refine qy ?_; refine s9 ?_; refine qy ?_; refine a6 ?_; refine ap ?_; refine ⟨.inr rfl, ?_⟩
  have he := b0q (p := p) (m := m) (by assumption : ¬ lvE n ps = 0)
  exact f9 rfl rfl (by rw [he]; exact ⟨CoC.agg ⟨CoP.refl _, bs, trivial⟩, CoC.one (CoP.sl rfl (.inr rfl) (fun _ => rfl) (fun i j hi _ => absurd hi (Nat.not_lt_zero i))), CoC.agg ⟨CoP.refl _, bs, trivial⟩, CoC.refl _, trivial⟩)
 ·
  have h0 := r0
  have h0 := of_decide_eq_true (b4 h0)
  try simp only [ty] at h0
  have hv : lvE n ps = 0 := by assumption
  refine aa ?_; refine a7 ?_; refine sx7 ?_; (iterate 3 refine qy ?_); refine rc rfl rfl rfl rfl rfl rfl ag1 (act n p m) (CoL.refl _) rfl rfl ?_; refine qy ?_; refine a6 ?_; refine sx7 ?_
  (iterate 2 refine qy ?_); refine a6 ?_; refine a8 _ rfl (fun r1 => ?_) (fun r1 => ?_)
  ·
   have h1 := r1
   have h1 := of_decide_eq_false (az h1)
   try simp only [ty] at h1
   refine sx7 ?_; (iterate 3 refine qy ?_); refine s9 ?_; refine qy ?_; refine s9 ?_; refine qy ?_; refine a6 ?_; refine ap ?_; refine ⟨.inr rfl, ?_⟩
   have he := b0b hv (by assumption : ¬ ck n p m = 0)
   exact f9 rfl rfl (by rw [he]; exact ⟨CoC.agg ⟨CoP.refl _, bs, trivial⟩, CoC.one (CoP.sl rfl (.inr rfl) (fun _ => rfl) (fun i j hi _ => absurd hi (Nat.not_lt_zero i))), CoC.agg ⟨CoP.refl _, bs, trivial⟩, CoC.refl _, trivial⟩)
  ·
   have h1 := r1
   have h1 := of_decide_eq_true (b4 h1)
   try simp only [ty] at h1
   have hb : ck n p m = 0 := by assumption
   refine aa ?_; refine sx7 ?_; (iterate 2 refine qy ?_); refine rc rfl rfl rfl rfl rfl rfl as3 (as0 n ps hv) (CoL.refl _) rfl rfl ?_; (iterate 3 refine qy ?_); refine m9 2 ?_; refine s9 ?_; refine qy ?_
   refine a6 ?_; refine a7 ?_; refine sx7 ?_; (iterate 2 refine qy ?_); refine a6 ?_; refine a8 _ rfl (fun e => by cases e) (fun _ => ?_); refine aa ?_; refine sx7 ?_; (iterate 3 refine qy ?_)
   refine rc rfl rfl rfl rfl rfl rfl aw8 (avu n ps p m) (CoL.refl _) rfl rfl ?_; (iterate 4 refine qy ?_); refine m9 3 ?_; refine qy ?_; refine s9 ?_; refine qy ?_; refine a6 ?_; refine a7 ?_
   refine ay (E := b6) af au [0, 1, 2, 3, 4, 5, 6, 7] ?_; (iterate 4 refine qy ?_); refine s9 ?_; refine qy ?_; refine s9 ?_; refine qy ?_; refine a6 ?_; refine ⟨by kernel_rfl, ?_⟩; refine ap ?_
   refine ⟨.inr rfl, ?_⟩
   have he := ar2 hv hb
   exact f9 rfl rfl (by rw [he]; exact CoL.refl _)
theorem auq : goodFn Tryz.prog 100 := ⟨Tryz.f100, Tryz.func100, by kernel_rfl, by kernel_rfl⟩
theorem au3 (n : Int) (h0 : 0 ≤ n) (h1 : n ≤ 16) : aj Tryz.prog 100 [pI n] (aq [pZ (cz n)]) := by
 refine ag (nt := 18) af Tryz.func100 rfl rfl l9 ?_; refine sx7 ?_; refine qy ?_; refine a6 ?_; refine sx7 ?_; refine qy ?_; refine m9 0 ?_; refine qy ?_; refine a6 ?_; refine a7 ?_; refine sx7 ?_
 (iterate 3 refine qy ?_); refine a6 ?_; refine ae ?_
 refine ak (ι := Nat) ⟨[(3, some _), (8, some _)], []⟩ ⟨⟨c9, c9, trivial⟩, trivial⟩ (fun k => ⟨[(9, some (vI k))], [(0, some (.arr true 1 3 n.toNat (lf zC (stT n 0 (ik 32) k))))]⟩) (fun k => k ≤ n.toNat) (fun k => n.toNat - k) (0) (Nat.zero_le _) ⟨⟨zy, trivial⟩, ⟨⟨_, rfl, (a7z rfl (fun _ => rfl))⟩, trivial⟩⟩ ?_
 rintro k hk
 refine sx7 ?_; refine qy ?_; refine a6 ?_; refine a7 ?_; refine a8 _ rfl (fun r0 => ?_) (fun r0 => ?_)
 ·
  have h0 := of_decide_eq_true r0
  try simp only [ty] at h0
  refine aa ?_; refine a7 ?_; refine ae ?_; refine sx7 ?_; (iterate 2 refine qy ?_); refine a6 ?_; refine gy ?_; (iterate 4 refine qy ?_); refine s9 ?_; refine a6 ?_; refine gy ?_; (iterate 2 refine qy ?_)
  refine a6 ?_; refine ⟨k + 1, ?_, ?_, ?_⟩
  · show k + 1 ≤ _; omega
  · first | omega | (dsimp only; omega)
  · exact ⟨⟨zy, c9, c9, trivial⟩, ⟨⟨_, rfl, (axq (al1 (by omega)) rfl (by omega))⟩, trivial⟩⟩
 ·
  have h0 := of_decide_eq_false r0
  try simp only [ty] at h0
  refine am ?_; refine a7 ?_; refine bu 3 rfl rfl rfl ?_; refine gy ?_; (iterate 2 refine qy ?_); refine a6 ?_
  exact hx8 rfl rfl rfl (⟨ahv h1 (by omega), trivial⟩)
theorem az4 : goodFn Tryz.prog 50 := ⟨Tryz.f50, Tryz.func50, by kernel_rfl, by kernel_rfl⟩
theorem b1s (n : Int) (ps : List AS) (p m : List Fd) : aj Tryz.prog 50 [pI n, pP (asl ps), pP (fdl p), pP (fdl m)] (aq [pB (lsB n ps p m), pI (lsC n ps p m)]) := by
 refine ag (nt := 33) af Tryz.func50 rfl rfl l9 ?_; refine sx7 ?_; (iterate 2 refine qy ?_); refine a6 ?_; refine sx7 ?_; (iterate 4 refine qy ?_)
 refine rc rfl rfl rfl rfl rfl rfl azb (aux n ps p m) (CoL.refl _) rfl rfl ?_; (iterate 5 refine qy ?_); refine m9 0 ?_; refine m9 1 ?_; refine s9 ?_; refine qy ?_; refine s9 ?_; refine qy ?_; refine a6 ?_
 refine a7 ?_; refine ay (E := b6) af au [0, 1, 2, 3, 4, 5, 6, 7, 8, 9, 10] ?_; (iterate 3 refine qy ?_); refine bh rfl rfl (fun r0 => ?_) (fun r0 => ?_)
 ·
  have h0 := of_decide_eq_true r0
  try simp only [ty] at h0
  have hz := b22 (n := n) (ps := ps) (p := p) (m := m) rfl h0
  (iterate 2 refine qy ?_ (hg := (gtt r0))); refine rc rfl rfl rfl rfl rfl rfl auq (au3 n hz.1 (by omega)) (CoL.refl _) rfl (gtt r0) ?_
  refine rc rfl rfl rfl rfl rfl rfl afz (ar4 (lcR n ps p m).2.2.1.1 (lcR n ps p m).2.2.1.2 (cz n)) (CoL.refl _) rfl (gtt r0) ?_; (iterate 4 refine qy ?_); refine a6 ?_; refine ⟨by kernel_rfl, ?_⟩
  exact hx8 rfl rfl rfl (⟨ccb (by first | exact awv | exact aoa (n := n) (ps := ps) (p := p) (m := m) (by assumption) | exact (aq5 (n := n) (ps := ps) (p := p) (m := m) (by assumption)).symm), cci s7, trivial⟩)
 ·
  have h0 := of_decide_eq_false r0
  try simp only [ty] at h0
  (iterate 4 refine k9 (gft r0) ?_); refine rq rfl rfl rfl rfl rfl ?_ (hp := r0); (iterate 3 refine qy ?_); refine a6 ?_; refine ⟨by kernel_rfl, ?_⟩
  exact hx8 rfl rfl rfl (⟨ccb (by first | exact awv | exact aoa (n := n) (ps := ps) (p := p) (m := m) (by assumption) | exact (aq5 (n := n) (ps := ps) (p := p) (m := m) (by assumption)).symm), cci s7, trivial⟩)
theorem as5 : goodFn Tryz.prog 143 := ⟨Tryz.f143, Tryz.func143, by kernel_rfl, by kernel_rfl⟩
theorem ami (n : Int) (ps : List AS) : aj Tryz.prog 143 [pI n, pP (asl ps)] (aq [pI (lvE n ps)]) := by
 refine ag (nt := 37) af Tryz.func143 rfl rfl l9 ?_; refine sx7 ?_; refine qy ?_; refine a6 ?_; refine a7 ?_; refine sx7 ?_; (iterate 3 refine qy ?_); refine bh rfl rfl (fun r0 => ?_) (fun r0 => ?_)
 ·
  have h0 := of_decide_eq_true r0
  try simp only [ty] at h0
  (iterate 2 refine k9 (gtf r0) ?_); refine rq rfl rfl rfl rfl rfl ?_ (hp := r0); refine a6 ?_; refine a8 _ rfl (fun _ => ?_) (fun e => by cases e); refine sx7 ?_; refine qy ?_; refine a6 ?_
  exact hx8 rfl rfl rfl (⟨cci (a7h (by omega)).symm, trivial⟩)
 ·
  have h0 := of_decide_eq_false r0
  try simp only [ty] at h0
  (iterate 2 refine qy ?_ (hg := (gff r0))); refine qy ?_; refine a6 ?_; refine a8 _ rfl (fun r1 => ?_) (fun r1 => ?_)
  ·
   have h1 := r1
   have h1 := bo r0 h1
   have h1 := of_decide_eq_true h1
   try simp only [ty] at h1
   refine sx7 ?_; refine qy ?_; refine a6 ?_
   exact hx8 rfl rfl rfl (⟨cci (a7h (by omega)).symm, trivial⟩)
  ·
   have h1 := r1
   have h1 := bo r0 h1
   have h1 := of_decide_eq_false h1
   try simp only [ty] at h1
   refine aa ?_; refine a7 ?_; refine sx7 ?_; (iterate 3 refine qy ?_); refine a6 ?_; refine a8 _ rfl (fun r2 => ?_) (fun r2 => ?_)
   ·
    have h2 := of_decide_eq_true r2
    try simp only [ty] at h2
    refine sx7 ?_; refine qy ?_; refine a6 ?_
    exact hx8 rfl rfl rfl (⟨cci (ard (by omega) (by omega)).symm, trivial⟩)
   ·
    have h2 := of_decide_eq_false r2
    try simp only [ty] at h2
    refine aa ?_; refine sx7 ?_; refine qy ?_; refine a6 ?_; refine a7 ?_; refine sx7 ?_; refine qy ?_; refine a6 ?_; refine ae ?_
    refine ak (ι := Nat) ⟨[(0, some _), (1, some _)], []⟩ ⟨⟨c9, c9, trivial⟩, trivial⟩ (fun i => ⟨[(5, some (vA (orL (ps.take i)))), (6, some (vI i))], []⟩) (fun i => i ≤ ps.length) (fun i => ps.length - i) (0) (Nat.zero_le _) ⟨⟨⟨_, rfl, (CoR.refl _)⟩, zy, trivial⟩, trivial⟩ ?_
    rintro i hi
    refine a7 ?_; refine sx7 ?_; (iterate 4 refine qy ?_); refine a6 ?_; refine a8 _ rfl (fun r3 => ?_) (fun r3 => ?_)
    ·
     have h3 := of_decide_eq_true r3
     try simp only [ty] at h3
     refine aa ?_; refine a7 ?_; refine ae ?_; refine gy ?_; (iterate 7 refine qy ?_); refine a6 ?_; refine gy ?_; (iterate 3 refine qy ?_); refine a6 ?_; refine ⟨i + 1, ?_, ?_, ?_⟩
     · show i + 1 ≤ _; omega
     · first | omega | (dsimp only; omega)
     · exact ⟨⟨⟨_, rfl, (n7 (by rw [bOr, a1j (by omega)]; rfl))⟩, zy, c9, c9, trivial⟩, trivial⟩
    ·
     have h3 := of_decide_eq_false r3
     try simp only [ty] at h3
     obtain rfl : i = ps.length := by omega
     rw [show ps.take ps.length = ps from List.take_length]
     refine am ?_; refine a7 ?_; refine sx7 ?_; (iterate 4 refine qy ?_); refine bh rfl rfl (fun r4 => ?_) (fun r4 => ?_)
     ·
      have h4 := of_decide_eq_true r4
      try simp only [ty] at h4
      (iterate 4 refine k9 (gtf r4) ?_); refine rq rfl rfl rfl rfl rfl ?_ (hp := r4); refine a6 ?_; refine a8 _ rfl (fun _ => ?_) (fun e => by cases e); refine sx7 ?_; refine qy ?_; refine a6 ?_
      exact hx8 rfl rfl rfl (⟨cci (a7o (by omega) (by omega) (by first | exact .inl (by omega) | exact .inr (fun e => absurd (show asI (orL ps) = asI (bw n) by rw [e]) (by assumption)))).symm, trivial⟩)
     ·
      have h4 := of_decide_eq_false r4
      try simp only [ty] at h4
      (iterate 2 refine qy ?_ (hg := (gff r4))); refine rc rfl rfl rfl rfl rfl rfl yk (y9 n) (CoL.refl _) rfl (gff r4) ?_; refine qy ?_ (hg := (gff r4)); refine qy ?_; refine a6 ?_
      refine a8 _ rfl (fun r5 => ?_) (fun r5 => ?_)
      ·
       have h5 := r5
       have h5 := bo r4 h5
       have h5 := of_decide_eq_false (az h5)
       try simp only [ty] at h5
       refine sx7 ?_; refine qy ?_; refine a6 ?_
       exact hx8 rfl rfl rfl (⟨cci (a7o (by omega) (by omega) (by first | exact .inl (by omega) | exact .inr (fun e => absurd (show asI (orL ps) = asI (bw n) by rw [e]) (by assumption)))).symm, trivial⟩)
      ·
       have h5 := r5
       have h5 := bo r4 h5
       have h5 := of_decide_eq_true (b4 h5)
       try simp only [ty] at h5
       refine aa ?_; refine sx7 ?_; refine qy ?_; refine a6 ?_; refine ap ?_; refine ⟨.inr rfl, ?_⟩
       exact ⟨_, _, _, _, rfl, (by (repeat' apply And.intro) <;> first | trivial | exact Nat.le_of_ble_eq_true rfl | rfl), rfl, (by (repeat' apply And.intro) <;> first | trivial | exact Nat.le_of_ble_eq_true rfl | rfl), ⟨cci (arx (by omega) (by omega) (fun e => by
        rcases e with e | e
        · omega
        · exact e (d6.1 (by assumption)))).symm, trivial⟩⟩
theorem ayh : goodFn Tryz.prog 95 := ⟨Tryz.f95, Tryz.func95, by kernel_rfl, by kernel_rfl⟩
theorem atu (n : Int) (ps : List AS) (p m : List Fd) : aj Tryz.prog 95 [pI n, pP (asl ps), pP (fdl p), pP (fdl m)] (aq [pP (stl (rcR n ps p m).1), pP (psl 2 tbC (rcR n ps p m).2.1), pI (rcR n ps p m).2.2]) := by
 refine ag (nt := 77) af Tryz.func95 rfl rfl l9 ?_; refine sx7 ?_; (iterate 3 refine qy ?_); refine a6 ?_; refine a7 ?_; refine sx7 ?_; (iterate 2 refine qy ?_)
 refine rc rfl rfl rfl rfl rfl rfl as5 (ami n ps) (CoL.refl _) rfl rfl ?_; refine qy ?_; refine a6 ?_; refine sx7 ?_; (iterate 2 refine qy ?_); refine a6 ?_; refine a8 _ rfl (fun r0 => ?_) (fun r0 => ?_)
 ·
  have h0 := r0
  have h0 := of_decide_eq_false (az h0)
  try simp only [ty] at h0
  refine sx7 ?_; (iterate 4 refine qy ?_); refine a6 ?_; refine ap ?_; refine ⟨.inr rfl, ?_⟩
  have he := adu (n := n) (ps := ps) (p := p) (m := m) (azf (by assumption)).1 (by assumption)
  exact f9 rfl rfl (by rw [he]; exact ⟨CoC.one (CoP.sl rfl (.inr rfl) (fun _ => rfl) (fun i j hi _ => absurd hi (Nat.not_lt_zero i))), CoC.one (CoP.sl rfl (.inr rfl) (fun _ => rfl) (fun i j hi _ => absurd hi (Nat.not_lt_zero i))), CoC.refl _, trivial⟩)
 ·
  have h0 := r0
  have h0 := of_decide_eq_true (b4 h0)
  try simp only [ty] at h0
  have hv : lvE n ps = 0 := by assumption
  refine aa ?_; refine a7 ?_; refine sx7 ?_; (iterate 3 refine qy ?_); refine rc rfl rfl rfl rfl rfl rfl zk (x3 n p m) (CoL.refl _) rfl rfl ?_; refine qy ?_; refine a6 ?_; refine sx7 ?_
  (iterate 2 refine qy ?_); refine a6 ?_; refine a8 _ rfl (fun r1 => ?_) (fun r1 => ?_)
  ·
   have h1 := r1
   have h1 := of_decide_eq_false (az h1)
   try simp only [ty] at h1
   refine sx7 ?_; (iterate 4 refine qy ?_); refine a6 ?_; refine ap ?_; refine ⟨.inr rfl, ?_⟩
   have he := adu (n := n) (ps := ps) (p := p) (m := m) (b14 hv (by assumption)).1 (by assumption)
   exact f9 rfl rfl (by rw [he]; exact ⟨CoC.one (CoP.sl rfl (.inr rfl) (fun _ => rfl) (fun i j hi _ => absurd hi (Nat.not_lt_zero i))), CoC.one (CoP.sl rfl (.inr rfl) (fun _ => rfl) (fun i j hi _ => absurd hi (Nat.not_lt_zero i))), CoC.refl _, trivial⟩)
  ·
   have h1 := r1
   have h1 := of_decide_eq_true (b4 h1)
   try simp only [ty] at h1
   have hb : ck n p m = 0 := by assumption
   refine aa ?_; refine sx7 ?_; (iterate 2 refine qy ?_); refine rc rfl rfl rfl rfl rfl rfl ase (aou n ps hv) (CoL.refl _) rfl rfl ?_; (iterate 3 refine qy ?_); refine m9 0 ?_; refine s9 ?_; refine qy ?_
   refine a6 ?_; refine a7 ?_; refine sx7 ?_; (iterate 2 refine qy ?_); refine a6 ?_; refine a8 _ rfl (fun e => by cases e) (fun _ => ?_); refine aa ?_; refine sx7 ?_; (iterate 3 refine qy ?_)
   refine rc rfl rfl rfl rfl rfl rfl asn (amc n ps p m) (CoL.refl _) rfl rfl ?_; (iterate 4 refine qy ?_); refine m9 1 ?_; refine qy ?_; refine s9 ?_; refine qy ?_; refine a6 ?_; refine a7 ?_; refine sx7 ?_
   (iterate 2 refine qy ?_); refine a6 ?_; refine a8 _ rfl (fun r2 => ?_) (fun r2 => ?_)
   ·
    have h2 := r2
    have h2 := of_decide_eq_false (az h2)
    try simp only [ty] at h2
    refine sx7 ?_; (iterate 4 refine qy ?_); refine a6 ?_; refine ap ?_; refine ⟨.inr rfl, ?_⟩
    have he := adu (n := n) (ps := ps) (p := p) (m := m) (af4 hv hb) (by assumption)
    exact f9 rfl rfl (by rw [he]; exact ⟨CoC.one (CoP.sl rfl (.inr rfl) (fun _ => rfl) (fun i j hi _ => absurd hi (Nat.not_lt_zero i))), CoC.one (CoP.sl rfl (.inr rfl) (fun _ => rfl) (fun i j hi _ => absurd hi (Nat.not_lt_zero i))), CoC.refl _, trivial⟩)
   ·
    have h2 := r2
    have h2 := of_decide_eq_true (b4 h2)
    try simp only [ty] at h2
    have hc : (lsT n ps p m).2.2 = 0 := by assumption
    have htr := ayo hv hb hc
    have hfew : (lsT n ps p m).1.length ≤ 1300000 := acp (p := p) (m := m) hv hb
    have hls : lsC n ps p m = 0 := (af4 hv hb).trans hc
    refine aa ?_; refine sx7 ?_; refine qy ?_; refine m9 2 ?_; refine qy ?_; refine a6 ?_; refine a7 ?_; refine sx7 ?_; refine qy ?_; refine a6 ?_; refine ae ?_
    refine ak (ι := Nat) ⟨[(2, some _), (3, some _), (13, some _), (15, some _)], []⟩ ⟨⟨c9, c9, c9, c9, trivial⟩, trivial⟩ (fun i => ⟨[(17, some (.v (.one (.ref 2 ((j4 n p m (ax (bi n ps)) (lsT n ps p m).1).take (i + 1)).length)))), (18, some (vI i))], [(0, some (.box [.p (.raw (.int .i64 n)), .p (rl ((trL n p m (ax (bi n ps)) (lsT n ps p m).1).getD i default))])), (2, some (.arr true 2 120 ((j4 n p m (ax (bi n ps)) (lsT n ps p m).1).take (i + 1)).length (lf tbC ((j4 n p m (ax (bi n ps)) (lsT n ps p m).1).take (i + 1)))))]⟩) (fun i => i ≤ (lsT n ps p m).1.length) (fun i => (lsT n ps p m).1.length - i) (0) (Nat.zero_le _) ⟨⟨⟨_, rfl, (kb (by rw [aab]; rfl))⟩, zy, trivial⟩, ⟨⟨_, rfl, (by rw [ate]; exact CoO.refl _)⟩, ⟨_, rfl, (avk aab rfl (CoP.refl _) (CoP.refl _))⟩, trivial⟩⟩ ?_
    rintro i hi
    have hlen : ((j4 n p m (ax (bi n ps)) (lsT n ps p m).1).take (i + 1)).length ≤ i + 1 := by rw [List.length_take]; omega
    refine a7 ?_; refine sx7 ?_; (iterate 4 refine qy ?_); refine a6 ?_; refine a8 _ rfl (fun r3 => ?_) (fun r3 => ?_)
    ·
     have h3 := of_decide_eq_true r3
     try simp only [ty] at h3
     obtain ⟨hx1, hx2, hx3⟩ := azi (by omega) (ari htr (i := i) (by omega))
     refine aa ?_; refine a7 ?_; refine ae ?_; refine a7 ?_; refine ay (E := b6) af au [0, 1, 2, 3, 4, 5, 6, 7, 8, 9, 10, 11] ?_; (iterate 7 refine qy ?_)
     refine rc rfl rfl rfl rfl rfl rfl ade (am9 n ((trL n p m (ax (bi n ps)) (lsT n ps p m).1).getD i default) p m ((lsT n ps p m).1.getD i default) hx1 hb hx2 hx3) (CoL.refl _) rfl rfl ?_
     (iterate 3 refine qy ?_); refine s9 ?_; refine a6 ?_; refine ⟨by kernel_rfl, ?_⟩; refine gy ?_; (iterate 2 refine qy ?_); refine m9 3 ?_; refine ra 4 true rfl rfl rfl rfl rfl rfl ?_; refine qy ?_; refine a6 ?_
     refine gy ?_; (iterate 3 refine qy ?_); refine a6 ?_; refine ⟨i + 1, ?_, ?_, ?_⟩
     · show i + 1 ≤ _; omega
     · first | omega | (dsimp only; omega)
     · exact ⟨⟨⟨_, rfl, (ee (a6q (by omega)))⟩, zy, c9, c9, c9, c9, trivial⟩, ⟨⟨_, rfl, (by rw [a5a (by omega)]; exact CoO.refl _)⟩, ⟨_, rfl, (qv (a6q (by omega)) (CoP.refl _) (CoP.refl _))⟩, trivial⟩⟩
    ·
     have h3 := of_decide_eq_false r3
     try simp only [ty] at h3
     obtain rfl : i = (lsT n ps p m).1.length := by omega
     refine am ?_; refine a7 ?_; refine bu 17 rfl rfl rfl ?_; refine gy ?_; (iterate 5 refine qy ?_); refine a6 ?_; refine ap ?_; refine ⟨.inr rfl, ?_⟩
     have he := a7k hls
     exact f9 rfl rfl (by rw [he]; exact ⟨CoC.refl _, (by rw [List.take_of_length_le (by rw [a1g]; omega)]; exact CoC.refl _), CoC.refl _, trivial⟩)
theorem az8 : goodFn Tryz.prog 49 := ⟨Tryz.f49, Tryz.func49, by kernel_rfl, by kernel_rfl⟩
theorem av5 (n : Int) (ps : List AS) (p m : List Fd) : aj Tryz.prog 49 [pI n, pP (asl ps), pP (fdl p), pP (fdl m)] (aq [pP (stl (prS n ps p m)), pI (prC n ps p m)]) := by
 refine ag (nt := 42) af Tryz.func49 rfl rfl l9 ?_; refine sx7 ?_; (iterate 2 refine qy ?_); refine a6 ?_; refine sx7 ?_; (iterate 4 refine qy ?_)
 refine rc rfl rfl rfl rfl rfl rfl ayh (atu n ps p m) (CoL.refl _) rfl rfl ?_; (iterate 7 refine qy ?_); refine a6 ?_; refine a7 ?_; refine sx7 ?_; (iterate 2 refine qy ?_); refine a6 ?_
 refine a8 _ rfl (fun r0 => ?_) (fun r0 => ?_)
 ·
  have h0 := r0
  have h0 := of_decide_eq_false (az h0)
  try simp only [ty] at h0
  refine sx7 ?_; (iterate 3 refine qy ?_); refine a6 ?_; refine ap ?_; refine ⟨.inr rfl, ?_⟩
  have hn : ¬ (rcR n ps p m).2.2 = 0 := by assumption
  have e1 : prS n ps p m = [] := if_neg hn
  have e2 : prC n ps p m = (rcR n ps p m).2.2 := if_neg hn
  exact f9 rfl rfl (by rw [e1, e2]; exact ⟨CoC.one (CoP.sl rfl (.inr rfl) (fun _ => rfl) (fun i j hi _ => absurd hi (Nat.not_lt_zero i))), CoC.refl _, trivial⟩)
 ·
  have h0 := r0
  have h0 := of_decide_eq_true (b4 h0)
  try simp only [ty] at h0
  have hc : (rcR n ps p m).2.2 = 0 := by assumption
  obtain ⟨hz0, hz1, hfew0⟩ := b1h hc
  have hfew : (rcR n ps p m).1.length ≤ 1300000 := hfew0
  have hln := ax4 hc
  refine aa ?_; refine a7 ?_; refine sx7 ?_; refine qy ?_; refine a6 ?_; refine ae ?_
  refine ak (ι := Nat) ⟨[(0, some _), (10, some _), (11, some _)], []⟩ ⟨⟨c9, c9, c9, trivial⟩, trivial⟩ (fun i => ⟨[(13, some (vI i))], []⟩) (fun i => i ≤ (rcR n ps p m).2.1.length ∧ (∀ j, j < i → a5t n ((rcR n ps p m).2.1.getD j default).2 = false)) (fun i => (rcR n ps p m).2.1.length - i) (0) (⟨Nat.zero_le _, fun j hj => absurd hj (Nat.not_lt_zero j)⟩) ⟨⟨zy, trivial⟩, trivial⟩ ?_
  rintro i ⟨hi, hI⟩
  refine a7 ?_; refine sx7 ?_; (iterate 4 refine qy ?_); refine a6 ?_; refine a8 _ rfl (fun r1 => ?_) (fun r1 => ?_)
  ·
   have h1 := of_decide_eq_true r1
   try simp only [ty] at h1
   refine aa ?_; refine a7 ?_; refine ae ?_; refine a7 ?_; refine ay (E := b6) af au [0, 1, 2, 3, 4, 5, 6] ?_; (iterate 5 refine qy ?_)
   refine rc rfl rfl rfl rfl rfl rfl aya (ays n hz1) (CoL.refl _) rfl rfl ?_
   refine rc rfl rfl rfl rfl rfl rfl ab4 (a9h ((rcR n ps p m).2.1.getD i default).1 ((rcR n ps p m).2.1.getD i default).2 (cz n)) (CoL.refl _) rfl rfl ?_; refine a6 ?_; refine ⟨by kernel_rfl, ?_⟩
   refine a8 _ rfl (fun r2 => ?_) (fun r2 => ?_)
   ·
    have h2 := r2
    have hx : prX n ps p m = (i : Int) := t7 (p := (fun a : Int × List Rw => a5t n a.2)) (i := i) (by omega) hI (by assumption)
    refine sx7 ?_; (iterate 5 refine qy ?_); refine a6 ?_; refine ap ?_; refine ⟨.inr rfl, ?_⟩
    have e1 : prS n ps p m = (rcR n ps p m).1.take i := by
     unfold prS
     rw [if_pos hc, if_neg (by omega), hx]
     rfl
    have e2 : prC n ps p m = 0 := by
     unfold prC
     rw [if_pos hc, if_neg (by omega)]
    exact f9 rfl rfl (by rw [e1, e2]; exact ⟨CoC.one (aqi (by rw [List.length_take]; dsimp only [dq, bd]; omega) (fun a j => by first | rfl | (simp; rfl))), CoC.refl _, trivial⟩)
   ·
    have h2 := r2
    refine aa ?_; refine gy ?_; (iterate 3 refine qy ?_); refine a6 ?_; refine ⟨i + 1, ?_, ?_, ?_⟩
    · refine ⟨by omega, fun j hj => ?_⟩
      by_cases e : j = i
      · rw [e]; assumption
      · exact hI j (by omega)
    · first | omega | (dsimp only; omega)
    · exact ⟨⟨zy, c9, c9, c9, trivial⟩, trivial⟩
  ·
   have h1 := of_decide_eq_false r1
   try simp only [ty] at h1
   have hx : prX n ps p m < 0 := by
    have : prX n ps p m = -1 := sy (p := (fun a : Int × List Rw => a5t n a.2)) fun j hj => hI j (by omega)
    omega
   refine am ?_; refine sx7 ?_; (iterate 2 refine qy ?_); refine a6 ?_; refine ap ?_; refine ⟨.inr rfl, ?_⟩
   have e1 : prS n ps p m = [] := by
    unfold prS
    rw [if_pos hc, if_pos hx]
   have e2 : prC n ps p m = 11 := by
    unfold prC
    rw [if_pos hc, if_pos hx]
   exact f9 rfl rfl (by rw [e1, e2]; exact ⟨CoC.one (CoP.sl rfl (.inr rfl) (fun _ => rfl) (fun i j hi _ => absurd hi (Nat.not_lt_zero i))), CoC.refl _, trivial⟩)
theorem aza : goodFn Tryz.prog 18 := ⟨Tryz.f18, Tryz.func18, by kernel_rfl, by kernel_rfl⟩
theorem b1w (n : Int) (ps : List AS) (p m : List Fd) : aj Tryz.prog 18 [pI n, pP (asl ps), pP (fdl p), pP (fdl m)] (aq [pB (lsB n ps p m), pI (lsC n ps p m)]) := by
 refine ag (nt := 25) af Tryz.func18 rfl rfl l9 ?_; refine sx7 ?_; (iterate 2 refine qy ?_); refine a6 ?_; refine sx7 ?_; (iterate 4 refine qy ?_)
 refine rc rfl rfl rfl rfl rfl rfl az8 (av5 n ps p m) (CoL.refl _) rfl rfl ?_; (iterate 5 refine qy ?_); refine a6 ?_; refine a7 ?_; refine sx7 ?_; (iterate 2 refine qy ?_); refine a6 ?_
 refine a8 _ rfl (fun r0 => ?_) (fun r0 => ?_)
 ·
  have h0 := of_decide_eq_true r0
  try simp only [ty] at h0
  refine sx7 ?_; (iterate 2 refine qy ?_); refine a6 ?_; refine ap ?_; refine ⟨.inr rfl, ?_⟩
  obtain ⟨e1, e2⟩ := b0s (n := n) (ps := ps) (p := p) (m := m) (by assumption)
  exact f9 rfl rfl (⟨ccb e1.symm, cci e2.symm, trivial⟩)
 ·
  have h0 := of_decide_eq_false r0
  try simp only [ty] at h0
  refine aa ?_; refine sx7 ?_; (iterate 5 refine qy ?_); refine a6 ?_; refine ap ?_; refine ⟨.inr rfl, ?_⟩
  obtain ⟨e1, e2⟩ := b0z (n := n) (ps := ps) (p := p) (m := m) (by assumption)
  exact f9 rfl rfl (⟨ccb e1, cci e2, trivial⟩)
end Go.Hx
end
section
namespace Go.Hx
inductive Lf (l : List Fd) : AS → AS → Prop
 | leaf {s : AS} : d4 l s = false → Lf l s s
 | left {s q : AS} : d4 l s = true → Lf l (spA l s) q → Lf l s q
 | right {s q : AS} : d4 l s = true → Lf l (spB l s) q → Lf l s q
def awo (l : List Fd) : Nat → AS → List AS
 | 0, s => [s]
 | k + 1, s => if d4 l s = true then awo l k (spA l s) ++ awo l k (spB l s) else [s]
theorem afh {n : Int} {l : List Fd} {ps : List AS} (h : ¬ lsC n ps l [] = 0 ∨ lsB n ps l [] = false) : yw n l ps = false := by
 have : lsB n ps l [] = false := by
  rcases h with h | h
  · unfold lsB; rw [decide_eq_false h]; rfl
  · exact h
 unfold yw
 rw [this]
 rfl
theorem b10 {n : Int} {l : List Fd} {ps : List AS} (h : lsB n ps l [] = true) : (!ps.any (d4 l)) = yw n l ps := by
 unfold yw
 rw [h]
 rfl
theorem acl {f : AS → Bool} {ps : List AS} {i : Nat} (h : i < ps.length) : (ps.take (i + 1)).all f = ((ps.take i).all f && f (ps.getD i default)) := by
 rw [cr h, List.all_append]
 simp
theorem awj {n : Int} {l : List Fd} {ps : List AS} : (lsB n ps l [] && (ps.take ps.length).all fun s => !d4 l s) = yw n l ps := by
 unfold yw
 rw [List.take_length, List.not_any_eq_all_not]
theorem ar9 {s : Nat} {f : Nat → Nat → PV} : CoC (.one (.sl 0 s true f)) (pP (fdl [])) := CoC.one (CoP.sl rfl (.inr rfl) (fun h => by cases h) fun i j hi _ => absurd hi (Nat.not_lt_zero i))
end Go.Hx
end
section
namespace Go.Hx
open Go.Proofs
set_option maxRecDepth 100000
set_option maxHeartbeats 1000000
theorem ayk : goodFn Tryz.prog 66 := ⟨Tryz.f66, Tryz.func66, by kernel_rfl, by kernel_rfl⟩
theorem b11 (s : AS) (l : List Fd) : aj Tryz.prog 66 [pA s, pP (bx (fdl l))] (aq [pB (d4 l s)]) := by
 refine ag (nt := 13) af Tryz.func66 rfl rfl l9 ?_; refine sx7 ?_; refine qy ?_; refine a6 ?_; refine sx7 ?_; (iterate 2 refine qy ?_); refine rc rfl rfl rfl rfl rfl rfl a2k (a7n l s) (CoL.refl _) rfl rfl ?_
 (iterate 3 refine qy ?_); refine m9 0 ?_; refine s9 ?_; refine qy ?_; refine a6 ?_; refine sx7 ?_; (iterate 2 refine qy ?_); refine a6 ?_
 exact hx8 rfl rfl rfl (CoL.refl _)
theorem ax3 : goodFn Tryz.prog 33 := ⟨Tryz.f33, Tryz.func33, by kernel_rfl, by kernel_rfl⟩
theorem b1j (n : Int) (l : List Fd) (ps : List AS) : aj Tryz.prog 33 [pI n, pP (fdl l), pP (asl ps)] (aq [pB (yw n l ps), pI (lsC n ps l [])]) := by
 refine ag (nt := 28) af Tryz.func33 rfl rfl l9 ?_; refine sx7 ?_; refine m9 0 ?_; (iterate 2 refine qy ?_); refine a6 ?_; refine sx7 ?_; (iterate 3 refine qy ?_)
 refine rc rfl rfl rfl rfl rfl rfl az4 (b1s n ps l []) (⟨CoC.refl _, CoC.refl _, CoC.refl _, ar9, trivial⟩) rfl rfl ?_; (iterate 5 refine qy ?_); refine a6 ?_; refine a7 ?_; refine sx7 ?_; (iterate 3 refine qy ?_)
 refine bh rfl rfl (fun r0 => ?_) (fun r0 => ?_)
 ·
  have h0 := r0
  have h0 := of_decide_eq_false (az h0)
  try simp only [ty] at h0
  (iterate 2 refine k9 (gtf r0) ?_); refine rq rfl rfl rfl rfl rfl ?_ (hp := r0); refine a6 ?_; refine a8 _ rfl (fun _ => ?_) (fun e => by cases e); refine sx7 ?_; (iterate 3 refine qy ?_); refine a6 ?_
  exact hx8 rfl rfl rfl (⟨ccb (afh (by first | exact .inl (by assumption) | exact .inr (by simp_all))).symm, CoC.refl _, trivial⟩)
 ·
  have h0 := r0
  have h0 := of_decide_eq_true (b4 h0)
  try simp only [ty] at h0
  (iterate 2 refine qy ?_ (hg := (gff r0))); refine qy ?_; refine a6 ?_; refine a8 _ rfl (fun r1 => ?_) (fun r1 => ?_)
  ·
   have h1 := r1
   have h1 := bo r0 h1
   have h1 := az h1
   refine sx7 ?_; (iterate 3 refine qy ?_); refine a6 ?_
   exact hx8 rfl rfl rfl (⟨ccb (afh (by first | exact .inl (by assumption) | exact .inr (by simp_all))).symm, CoC.refl _, trivial⟩)
  ·
   have h1 := r1
   have h1 := bo r0 h1
   have h1 := b4 h1
   refine aa ?_; refine a7 ?_; refine ct 4 rfl rfl rfl ?_; refine gy ?_; (iterate 2 refine qy ?_)
   refine rc rfl rfl rfl rfl rfl rfl a8d (aeu ps 66 1 (fun i => [bx (fdl l)].getD i .any) (d4 l) ayk (fun s => b11 s l)) (CoL.refl _) rfl rfl ?_; (iterate 3 refine qy ?_); refine a6 ?_
   exact hx8 rfl rfl rfl (⟨ccb (b10 (by simp_all)), cci (by symm; assumption), trivial⟩)
theorem awu : goodFn Tryz.prog 34 := ⟨Tryz.f34, Tryz.func34, by kernel_rfl, by kernel_rfl⟩
theorem b0u (n : Int) (l : List Fd) (ps : List AS) : aj Tryz.prog 34 [pI n, pP (fdl l), pP (asl ps)] (aq [pB (yw n l ps), pI (lsC n ps l [])]) := by
 refine ag (nt := 37) af Tryz.func34 rfl rfl l9 ?_; refine sx7 ?_; (iterate 2 refine qy ?_); refine a6 ?_; refine sx7 ?_; (iterate 3 refine qy ?_)
 refine rc rfl rfl rfl rfl rfl rfl aza (b1w n ps l []) (⟨CoC.refl _, CoC.refl _, CoC.refl _, ar9, trivial⟩) rfl rfl ?_; (iterate 5 refine qy ?_); refine a6 ?_; refine a7 ?_; refine sx7 ?_; (iterate 2 refine qy ?_)
 refine a6 ?_; refine a8 _ rfl (fun r0 => ?_) (fun r0 => ?_)
 ·
  have h0 := r0
  have h0 := of_decide_eq_false (az h0)
  try simp only [ty] at h0
  refine sx7 ?_; (iterate 3 refine qy ?_); refine a6 ?_
  exact hx8 rfl rfl rfl (⟨ccb (afh (.inl (by assumption))).symm, CoC.refl _, trivial⟩)
 ·
  have h0 := r0
  have h0 := of_decide_eq_true (b4 h0)
  try simp only [ty] at h0
  have hc0 : lsC n ps l [] = 0 := by assumption
  refine aa ?_; (iterate 2 refine a7 ?_)
  refine ce 2 rfl fun hn => ?_
  refine gy ?_; refine qy ?_; refine a6 ?_; refine ae ?_
  refine ak (ι := Nat) ⟨[(1, some _), (2, some _)], []⟩ ⟨⟨c9, c9, trivial⟩, trivial⟩ (fun i => ⟨[(8, some (vB (lsB n ps l [] && (ps.take i).all (fun s => !d4 l s)))), (10, some (vI i))], []⟩) (fun i => i ≤ ps.length) (fun i => ps.length - i) (0) (Nat.zero_le _) ⟨⟨⟨_, rfl, (cob (by simp))⟩, zy, trivial⟩, trivial⟩ ?_
  rintro i hi
  refine a7 ?_; refine sx7 ?_; (iterate 4 refine qy ?_); refine a6 ?_; refine a8 _ rfl (fun r1 => ?_) (fun r1 => ?_)
  ·
   have h1 := of_decide_eq_true r1
   try simp only [ty] at h1
   refine aa ?_; refine a7 ?_; refine ae ?_; refine gy ?_; (iterate 2 refine qy ?_); refine bh rfl rfl (fun r2 => ?_) (fun r2 => ?_)
   ·
    have h2 := r2
    (iterate 5 refine qy ?_ (hg := (gtt r2))); refine rc rfl rfl rfl rfl rfl rfl ayx (ax2 l (ps.getD i default)) (CoL.refl _) rfl (gtt r2) ?_; (iterate 2 refine qy ?_); refine a6 ?_; refine gy ?_
    (iterate 3 refine qy ?_); refine a6 ?_; refine ⟨i + 1, ?_, ?_, ?_⟩
    · show i + 1 ≤ _; omega
    · first | omega | (dsimp only; omega)
    · exact ⟨⟨⟨_, rfl, (cob (by rw [acl (by omega), ← Bool.and_assoc]; first | (rw [(by assumption : (lsB n ps l [] && (ps.take i).all (fun s => !d4 l s)) = true)]; rfl) | (rw [(by assumption : (lsB n ps l [] && (ps.take i).all (fun s => !d4 l s)) = false)]; rfl) | (cases (lsB n ps l [] && (ps.take i).all (fun s => !d4 l s)) <;> rfl)))⟩, zy, c9, c9, trivial⟩, trivial⟩
   ·
    have h2 := r2
    (iterate 6 refine k9 (gft r2) ?_); refine rq rfl rfl rfl rfl rfl ?_ (hp := r2); refine qy ?_; refine a6 ?_; refine gy ?_; (iterate 3 refine qy ?_); refine a6 ?_; refine ⟨i + 1, ?_, ?_, ?_⟩
    · show i + 1 ≤ _; omega
    · first | omega | (dsimp only; omega)
    · exact ⟨⟨⟨_, rfl, (cob (by rw [acl (by omega), ← Bool.and_assoc]; first | (rw [(by assumption : (lsB n ps l [] && (ps.take i).all (fun s => !d4 l s)) = true)]; rfl) | (rw [(by assumption : (lsB n ps l [] && (ps.take i).all (fun s => !d4 l s)) = false)]; rfl) | (cases (lsB n ps l [] && (ps.take i).all (fun s => !d4 l s)) <;> rfl)))⟩, zy, c9, c9, trivial⟩, trivial⟩
  ·
   have h1 := of_decide_eq_false r1
   try simp only [ty] at h1
   obtain rfl : i = ps.length := by omega
   refine am ?_; refine sx7 ?_; (iterate 3 refine qy ?_); refine a6 ?_
   exact hx8 rfl rfl rfl (⟨ccb awj, cci hc0.symm, trivial⟩)
end Go.Hx
end
section
namespace Go.Hx
open Go.Proofs
def u8A (b : BitVec 8) : AS := b.setWidth 32
theorem b0n (b : BitVec 8) : (b.toNat : Int) = asI (u8A b) := by
 have h := b.isLt
 unfold asI u8A
 rw [BitVec.toNat_setWidth, Nat.mod_eq_of_lt (by omega)]
theorem b02 {b : BitVec 8} {j : Nat} : CoP (.raw (.int .u32 (b.toNat : Int))) (sC (u8A b) j) := CoP.of_eq (congrArg (fun z => PV.raw (.int .u32 z)) (b0n b))
abbrev u8C : BitVec 8 → Nat → PV := fun b _ => .raw (.int .u8 (b.toNat : Int))
end Go.Hx
end
