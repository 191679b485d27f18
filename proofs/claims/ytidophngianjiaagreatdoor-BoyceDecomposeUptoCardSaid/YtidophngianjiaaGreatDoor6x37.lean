/- A part of the proof: Ls3 Ls5 W0. -/
import Derived.Test.YtidophngianjiaaGreatDoor6x33
import Derived.Test.YtidophngianjiaaGreatDoor6x35
import Derived.Test.YtidophngianjiaaGreatDoor6x36
set_option linter.all false
section
namespace Go.Hx
def lvE (n : Int) (ps : List AS) : Int := if n < 0 ∨ 8 < n then 7 else if 64 < ps.length then 3 else if ps.length = 0 ∨ ¬ orL ps = bf n then 1 else 0
section
variable {n : Int} {ps : List AS} {p m : List Fd}
theorem a8u (h : n < 0 ∨ 8 < n) : lvE n ps = 7 := if_pos h
theorem aow (h : ¬ (n < 0 ∨ 8 < n)) (h2 : 64 < ps.length) : lvE n ps = 3 := by unfold lvE; rw [if_neg h, if_pos h2]
theorem a8n (h : ¬ (n < 0 ∨ 8 < n)) (h2 : ¬ 64 < ps.length) (h3 : ps.length = 0 ∨ ¬ orL ps = bf n) : lvE n ps = 1 := by unfold lvE; rw [if_neg h, if_neg h2, if_pos h3]
theorem af5 (h : ¬ (n < 0 ∨ 8 < n)) (h2 : ¬ 64 < ps.length) (h3 : ¬ (ps.length = 0 ∨ ¬ orL ps = bf n)) : lvE n ps = 0 := by unfold lvE; rw [if_neg h, if_neg h2, if_neg h3]
theorem o5 (h : lvE n ps = 0) : 0 ≤ n ∧ n ≤ 8 ∧ ps.length ≤ 64 ∧ 0 < ps.length ∧ orL ps = bf n := by
 unfold lvE at h
 split at h
 · exact absurd h (by decide)
 · split at h
   · exact absurd h (by decide)
   · split at h
     · exact absurd h (by decide)
     · rename_i h1 h2 h3
       refine ⟨by omega, by omega, by omega, by omega, ?_⟩
       apply Classical.byContradiction
       intro e
       exact h3 (.inr e)
def lsT (n : Int) (ps : List AS) (p m : List Fd) : List St × (Int × List Rw) × Int := gk FU n (az (be n ps)) p m
def lsC (n : Int) (ps : List AS) (p m : List Fd) : Int := if lvE n ps = 0 then (if cq n p m = 0 then (lsT n ps p m).2.2 else cq n p m) else lvE n ps
def lsB (n : Int) (ps : List AS) (p m : List Fd) : Bool := decide (lsC n ps p m = 0) && (lsT n ps p m).2.1.2.any fun r => decide (r = ce n)
theorem az0 (h : ¬ lvE n ps = 0) : lsC n ps p m = lvE n ps ∧ lsB n ps p m = false := by
 have e : lsC n ps p m = lvE n ps := if_neg h
 exact ⟨e, by unfold lsB; rw [e, decide_eq_false h]; rfl⟩
theorem azc (h : lvE n ps = 0) (h2 : ¬ cq n p m = 0) : lsC n ps p m = cq n p m ∧ lsB n ps p m = false := by
 have e : lsC n ps p m = cq n p m := (if_pos h).trans (if_neg h2)
 exact ⟨e, by unfold lsB; rw [e, decide_eq_false h2]; rfl⟩
theorem a8v (h : lvE n ps = 0) (h2 : cq n p m = 0) : lsC n ps p m = (lsT n ps p m).2.2 := (if_pos h).trans (if_pos h2)
theorem a3x (h : lsC n ps p m = 0) : lvE n ps = 0 ∧ cq n p m = 0 := by
 unfold lsC at h
 split at h
 · rename_i e
   split at h
   · rename_i e2; exact ⟨e, e2⟩
   · rename_i e2; exact absurd h e2
 · rename_i e; exact absurd h e
theorem aw0 (h : lvE n ps = 0) {q : AS} (hq : q ∈ ps) : sub q (bf n) := by
 rw [← (o5 h).2.2.2.2]
 exact aee hq
theorem aaj (h : lvE n ps = 0) : f8 n ps = (n, az (be n ps), 0) := by
 obtain ⟨h0, h8, h64, _⟩ := o5 h
 exact a3e (by omega) (by omega) fun j hj => (ag8 h0 (by omega)).1 (aw0 h (dy hj))
theorem atz (h : lvE n ps = 0) (hb : cq n p [] = 0) : lsC n ps p [] = 0 ∧ (lsB n ps p [] = true ↔ LR n.toNat p [] (be n ps) (ce n)) := by
 obtain ⟨h0, h8, h64, _⟩ := o5 h
 rcases zo (m := []) h64 hb with ⟨_, e⟩ | ⟨sts, lend, e, h1, _⟩
 · exact absurd rfl e
 · have ec : lsC n ps p [] = 0 := by rw [a8v h hb]; unfold lsT; rw [e]
   refine ⟨ec, ?_⟩
   unfold lsB lsT
   rw [ec, e, decide_eq_true rfl, Bool.true_and]
   show (lend.any fun r => decide (r = ce n)) = true ↔ _
   rw [tt, decide_eq_true_iff, h1]
theorem aoc (h : c8 n p = 0) : cq n p [] = 0 := (a93 (m := []) h (by simp) fun j hj => absurd hj (Nat.not_lt_zero j)).symm
theorem ane (h0 : 0 ≤ n) (h6 : n ≤ 6) (hd : ps.Nodup) (hs : ∀ q, q ∈ ps → sub q (bf n)) : ps.length ≤ 64 := by
 have hlt : ∀ q, q ∈ ps → q.toNat < 64 := fun q hq => by
  have h1 := al2 (hs q hq)
  have h2 : ∀ k, k ≤ 6 → (ij k).toNat < 64 := by decide +kernel
  have h3 := h2 (min n.toNat 32) (by omega)
  have h4 : (bf n).toNat < 64 := h3
  omega
 have hn : (ps.map BitVec.toNat).Nodup := by
  refine List.Pairwise.map BitVec.toNat (fun a b hab e => ?_) hd
  exact hab (BitVec.eq_of_toNat_eq e)
 have := hn.length_le_of_subset (l₂ := List.range 64) fun x hx => by
  obtain ⟨q, hq, rfl⟩ := List.mem_map.1 hx
  exact List.mem_range.2 (hlt q hq)
 simpa using this
theorem azb (h0 : 0 ≤ n) (h6 : n ≤ 6) (hd : ps.Nodup) (hs : ∀ q, q ∈ ps → sub q (bf n)) (hne : 0 < ps.length) (ho : sub (bf n) (orL ps)) : lvE n ps = 0 := by
 have h1 := ane h0 h6 hd hs
 have h2 : orL ps = bf n := gt (aw8 hs) ho
 exact af5 (by omega) (by omega) fun e => by
  rcases e with e | e
  · omega
  · exact e h2
theorem akw {t : AS} : ∀ (f : Nat) (todo out : List AS), dq todo < f → (∀ q, q ∈ kr p f todo out → sub q t) → (∀ q, q ∈ out → sub q t) ∧ ∀ s, s ∈ todo → sub s t := by
 intro f
 induction f with
 | zero => intro _ _ h _; exact absurd h (Nat.not_lt_zero _)
 | succ f ih =>
  intro todo out hm hq
  unfold kr at hq
  by_cases h0 : todo.length = 0
  · rw [if_pos h0] at hq
    have : todo = [] := List.length_eq_zero_iff.1 h0
    subst this
    exact ⟨hq, fun s hs => by simp at hs⟩
  · rw [if_neg h0] at hq
    have hlast := ni (todo := todo) (by omega)
    have hms := iw (todo.take (todo.length - 1)) [todo.getD (todo.length - 1) default]
    rw [← hlast] at hms
    have hone : dq [todo.getD (todo.length - 1) default] = 3 ^ bsz (todo.getD (todo.length - 1) default) := by unfold dq; simp
    have hp1 : 0 < 3 ^ bsz (todo.getD (todo.length - 1) default) := Nat.pow_pos (by decide)
    by_cases hv : bz p (todo.getD (todo.length - 1) default) = true
    · rw [if_pos hv] at hq
      obtain ⟨s1, s2, s3, s4⟩ := jz hv
      have b1 := dh s1 s2
      have b2 := dh s3 s4
      have hm2 : dq (todo.take (todo.length - 1) ++ [spA p (todo.getD (todo.length - 1) default), spB p (todo.getD (todo.length - 1) default)]) < f := by
       rw [iw]
       have e2 : dq [spA p (todo.getD (todo.length - 1) default), spB p (todo.getD (todo.length - 1) default)] = 3 ^ bsz (spA p (todo.getD (todo.length - 1) default)) + 3 ^ bsz (spB p (todo.getD (todo.length - 1) default)) := by unfold dq; simp
       obtain ⟨k, hk⟩ : ∃ k, bsz (todo.getD (todo.length - 1) default) = k + 1 := ⟨bsz (todo.getD (todo.length - 1) default) - 1, by omega⟩
       have p1 : 3 ^ bsz (spA p (todo.getD (todo.length - 1) default)) ≤ 3 ^ k := Nat.pow_le_pow_right (by decide) (by omega)
       have p2 : 3 ^ bsz (spB p (todo.getD (todo.length - 1) default)) ≤ 3 ^ k := Nat.pow_le_pow_right (by decide) (by omega)
       have p3 : (3 : Nat) ^ (k + 1) = 3 ^ k * 3 := Nat.pow_succ ..
       have p4 : 0 < 3 ^ k := Nat.pow_pos (by decide)
       rw [hk] at hone
       omega
      obtain ⟨i1, i2⟩ := ih _ _ hm2 hq
      refine ⟨i1, fun s hs => ?_⟩
      rw [hlast] at hs
      rcases List.mem_append.1 hs with hs | hs
      · exact i2 s (List.mem_append_left _ hs)
      · rw [List.mem_singleton.1 hs]
        have c1 := i2 _ (List.mem_append_right _ (show spA p (todo.getD (todo.length - 1) default) ∈ _ by simp))
        have c2 := i2 _ (List.mem_append_right _ (show spB p (todo.getD (todo.length - 1) default) ∈ _ by simp))
        refine c6.2 fun i hi hb => ?_
        cases hr : (gq p (todo.getD (todo.length - 1) default)).rhs.getLsbD i with
        | true => exact c6.1 c1 i hi (by unfold spA; rw [BitVec.getLsbD_or, hr, Bool.or_true])
        | false => exact c6.1 c2 i hi (by unfold spB; rw [BitVec.getLsbD_and, BitVec.getLsbD_not, hb, hr]; simp [hi])
    · rw [if_neg hv] at hq
      obtain ⟨i1, i2⟩ := ih _ _ (by omega) hq
      refine ⟨fun q hq => i1 q (List.mem_append_left _ hq), fun s hs => ?_⟩
      rw [hlast] at hs
      rcases List.mem_append.1 hs with hs | hs
      · exact i2 s hs
      · rw [List.mem_singleton.1 hs]
        exact i1 _ (List.mem_append_right _ (by simp))
theorem amg {t : AS} : ∀ (f : Nat) (todo out : List AS), (∀ s, s ∈ todo → sub s t) → (∀ q, q ∈ out → sub q t ∧ bz p q = false) → dq todo < f → (∀ q, q ∈ kr p f todo out → sub q t ∧ bz p q = false) ∧ (0 < todo.length + out.length → 0 < (kr p f todo out).length) := by
 intro f
 induction f with
 | zero => intro _ _ _ _ h; exact absurd h (Nat.not_lt_zero _)
 | succ f ih =>
  intro todo out ht ho hm
  unfold kr
  by_cases h0 : todo.length = 0
  · rw [if_pos h0]
    exact ⟨ho, by omega⟩
  · rw [if_neg h0]
    have hlast := ni (todo := todo) (by omega)
    have hms := iw (todo.take (todo.length - 1)) [todo.getD (todo.length - 1) default]
    rw [← hlast] at hms
    have hone : dq [todo.getD (todo.length - 1) default] = 3 ^ bsz (todo.getD (todo.length - 1) default) := by unfold dq; simp
    have hp1 : 0 < 3 ^ bsz (todo.getD (todo.length - 1) default) := Nat.pow_pos (by decide)
    have hl := ht _ (dy (l := todo) (i := todo.length - 1) (by omega))
    have htk : ∀ s, s ∈ todo.take (todo.length - 1) → sub s t := fun s hs => ht s (List.mem_of_mem_take hs)
    by_cases hv : bz p (todo.getD (todo.length - 1) default) = true
    · rw [if_pos hv]
      obtain ⟨s1, s2, s3, s4⟩ := jz hv
      have b1 := dh s1 s2
      have b2 := dh s3 s4
      have hm2 : dq (todo.take (todo.length - 1) ++ [spA p (todo.getD (todo.length - 1) default), spB p (todo.getD (todo.length - 1) default)]) < f := by
       rw [iw]
       have e2 : dq [spA p (todo.getD (todo.length - 1) default), spB p (todo.getD (todo.length - 1) default)] = 3 ^ bsz (spA p (todo.getD (todo.length - 1) default)) + 3 ^ bsz (spB p (todo.getD (todo.length - 1) default)) := by unfold dq; simp
       obtain ⟨k, hk⟩ : ∃ k, bsz (todo.getD (todo.length - 1) default) = k + 1 := ⟨bsz (todo.getD (todo.length - 1) default) - 1, by omega⟩
       have p1 : 3 ^ bsz (spA p (todo.getD (todo.length - 1) default)) ≤ 3 ^ k := Nat.pow_le_pow_right (by decide) (by omega)
       have p2 : 3 ^ bsz (spB p (todo.getD (todo.length - 1) default)) ≤ 3 ^ k := Nat.pow_le_pow_right (by decide) (by omega)
       have p3 : (3 : Nat) ^ (k + 1) = 3 ^ k * 3 := Nat.pow_succ ..
       have p4 : 0 < 3 ^ k := Nat.pow_pos (by decide)
       rw [hk] at hone
       omega
      obtain ⟨i1, i2⟩ := ih _ out (fun s hs => by
       rcases List.mem_append.1 hs with hs | hs
       · exact htk s hs
       · simp only [List.mem_cons, List.not_mem_nil, or_false] at hs
         rcases hs with rfl | rfl
         · exact gc s1 hl
         · exact gc s3 hl) ho hm2
      exact ⟨i1, fun _ => i2 (by simp only [List.length_append, List.length_cons, List.length_nil]; omega)⟩
    · rw [if_neg hv]
      obtain ⟨i1, i2⟩ := ih (todo.take (todo.length - 1)) (out ++ [todo.getD (todo.length - 1) default]) htk (fun q hq => by
       rcases List.mem_append.1 hq with hq | hq
       · exact ho q hq
       · rw [List.mem_singleton.1 hq]
         exact ⟨hl, Bool.eq_false_iff.2 hv⟩) (by omega)
      exact ⟨i1, fun _ => i2 (by simp only [List.length_append, List.length_cons, List.length_nil]; omega)⟩
theorem ah8 (h8 : d7 n p 8 = 0) (h6 : n ≤ 6) : lvE n (jx n p) = 0 ∧ ∀ q, q ∈ jx n p → bz p q = false := by
 obtain ⟨hv, _⟩ := jn h8
 obtain ⟨h0, _, _⟩ := gw hv
 have hz := (xv h8).2.1
 obtain ⟨i1, i2⟩ := amg (p := p) (t := bf n) 6562 [bf n] [] (fun s hs => by rw [List.mem_singleton.1 hs]; exact l8 _) (fun q hq => by simp at hq) hz
 have e : jx n p = db (xb n p) := a4j h8
 have hin : ∀ q, q ∈ jx n p → q ∈ xb n p := fun q hq => by rw [e] at hq; exact (xg.1 hq).1
 refine ⟨azb h0 h6 (by rw [e]; exact ya _) (fun q hq => (i1 q (hin q hq)).1) ?_ ?_, fun q hq => (i1 q (hin q hq)).2⟩
 · have h1 : 0 < (xb n p).length := i2 (by simp)
   obtain ⟨y, hy, _⟩ := a60 (dy h1)
   rw [e]
   exact List.length_pos_of_mem hy
 · refine (akw (p := p) 6562 [bf n] [] hz fun q hq => ?_).2 _ (by simp)
   obtain ⟨y, hy, hqy⟩ := a60 (show q ∈ xb n p from hq)
   rw [e]
   exact gc hqy (aee hy)
def pb (n : Int) (p : List Fd) (ps : List AS) : Bool := lsB n ps p [] && !ps.any (bz p)
theorem arl (h8 : d7 n p 8 = 0) (h6 : n ≤ 6) : lsC n (jx n p) p [] = 0 ∧ pb n p (jx n p) = true := by
 obtain ⟨hv, _⟩ := jn h8
 obtain ⟨h0, _, _⟩ := gw hv
 obtain ⟨h1, h2⟩ := ah8 h8 h6
 obtain ⟨h3, h4⟩ := atz h1 (aoc hv)
 refine ⟨h3, ?_⟩
 unfold pb
 rw [h4.2 (aas h0 h8), Bool.true_and, Bool.not_eq_true', List.any_eq_false]
 intro q hq
 rw [h2 q hq]
 decide
end
end Go.Hx
end
section
namespace Go.Hx
abbrev tbC (a : Int × List Rw) : Nat → PV := fun j => [.raw (.int .i64 a.1), rl a.2].getD j .any
def lcR (n : Int) (ps : List AS) (p m : List Fd) : (Int × List Rw) × List St × (Int × List Rw) × Int :=
 if lvE n ps = 0 then (if cq n p m = 0 then ((n, az (be n ps)), (lsT n ps p m).1, (lsT n ps p m).2.1, (lsT n ps p m).2.2) else ((0, []), [], (0, []), cq n p m)) else ((0, []), [], (0, []), lvE n ps)
section
variable {n : Int} {ps : List AS} {p m : List Fd} {l lend : List Rw}
theorem ayb (h : ¬ lvE n ps = 0) : lcR n ps p m = ((0, []), [], (0, []), lvE n ps) := if_neg h
theorem ayu (h : lvE n ps = 0) (h2 : ¬ cq n p m = 0) : lcR n ps p m = ((0, []), [], (0, []), cq n p m) := (if_pos h).trans (if_neg h2)
theorem aos (h : lvE n ps = 0) (h2 : cq n p m = 0) : lcR n ps p m = ((n, az (be n ps)), (lsT n ps p m).1, (lsT n ps p m).2.1, (lsT n ps p m).2.2) := (if_pos h).trans (if_pos h2)
theorem sy : (lcR n ps p m).2.2.2 = lsC n ps p m := by
 unfold lcR lsC
 split
 · split <;> rfl
 · rfl
theorem amv (h : (lcR n ps p m).2.2.2 = 0) : ((lcR n ps p m).2.2.1.2.any fun r => decide (r = ce n)) = lsB n ps p m := by
 have hc := h
 rw [sy] at hc
 obtain ⟨h1, h2⟩ := a3x hc
 unfold lsB
 rw [decide_eq_true hc, Bool.true_and, aos h1 h2]
theorem aoi (h : ¬ (lcR n ps p m).2.2.2 = 0) : lsB n ps p m = false := by
 rw [sy] at h
 unfold lsB
 rw [decide_eq_false h]
 rfl
theorem avu : (bif decide ((lcR n ps p m).2.2.2 = 0) then ((lcR n ps p m).2.2.1.2.any fun r => decide (r = ce n)) else false) = lsB n ps p m := by
 by_cases h : (lcR n ps p m).2.2.2 = 0
 · rw [decide_eq_true h, cond_true, amv h]
 · rw [decide_eq_false h, cond_false, aoi h]
theorem azq (h : lcR n ps p m = lcR n ps p m) (h2 : (lcR n ps p m).2.2.2 = 0) : 0 ≤ n ∧ n ≤ 8 := by
 rw [sy] at h2
 obtain ⟨h1, _⟩ := a3x h2
 exact ⟨(o5 h1).1, (o5 h1).2.1⟩
theorem aou : ∀ {sts : List St} {l : List Rw} {i : Nat}, TrZ n p m lend l sts → i ≤ sts.length → TrZ n p m lend ((trL n p m l sts).getD i default) (sts.drop i)
 | [], l, 0, h, _ => h
 | s :: r, l, 0, h, _ => h
 | s :: r, l, i + 1, h, hi => by
  obtain ⟨_, _, l', e, _, h⟩ := h
  unfold trL
  rw [e]
  exact aou (i := i) h (by simpa using hi)
theorem a6c : ∀ {sts : List St} {l : List Rw} {i : Nat}, i < sts.length → (trL n p m l sts).getD (i + 1) default = (dc n ((trL n p m l sts).getD i default) p m (sts.getD i default)).2.1
 | [], l, i, hi => by simp at hi
 | s :: r, l, 0, _ => by
  unfold trL
  cases r with
  | nil => rfl
  | cons s2 r2 => rfl
 | s :: r, l, i + 1, hi => by
  unfold trL
  exact a6c (sts := r) (i := i) (by simpa using hi)
theorem asv {sts : List St} : (trL n p m l sts).getD 0 default = l := by cases sts <;> rfl
def jc (n : Int) (p m : List Fd) (l : List Rw) (sts : List St) : List (Int × List Rw) := (trL n p m l sts).map fun t => (n, t)
theorem a2w {sts : List St} : (jc n p m l sts).length = sts.length + 1 := by unfold jc; rw [List.length_map, a6b]
theorem asx {sts : List St} {i : Nat} (hi : i ≤ sts.length) : (jc n p m l sts).getD i default = (n, (trL n p m l sts).getD i default) := by
 unfold jc
 have : i < (trL n p m l sts).length := by rw [a6b]; omega
 rw [List.getD_eq_getElem?_getD, List.getElem?_map, List.getElem?_eq_getElem this, List.getD_eq_getElem?_getD, List.getElem?_eq_getElem this]
 rfl
theorem a8c {sts : List St} {i : Nat} (hi : i < sts.length) : (jc n p m l sts).take (i + 1 + 1) = (jc n p m l sts).take (i + 1) ++ [(n, (dc n ((trL n p m l sts).getD i default) p m (sts.getD i default)).2.1)] := by
 rw [ci (by rw [a2w]; omega), asx (by omega), a6c hi]
theorem aa0 {sts : List St} : (jc n p m l sts).take 1 = [(n, l)] := by
 unfold jc
 cases sts <;> rfl
def rcR (n : Int) (ps : List AS) (p m : List Fd) : List St × List (Int × List Rw) × Int :=
 if lsC n ps p m = 0 then ((lsT n ps p m).1, jc n p m (az (be n ps)) (lsT n ps p m).1, 0) else ([], [], lsC n ps p m)
theorem afy {c : Int} (h : lsC n ps p m = c) (h2 : ¬ c = 0) : rcR n ps p m = ([], [], c) := by
 unfold rcR
 rw [h, if_neg h2]
theorem a8m (h : lsC n ps p m = 0) : rcR n ps p m = ((lsT n ps p m).1, jc n p m (az (be n ps)) (lsT n ps p m).1, 0) := if_pos h
theorem aki (h : lvE n ps = 0) (hb : cq n p m = 0) (hc : (lsT n ps p m).2.2 = 0) : ∃ sts lend, lsT n ps p m = (sts, (n, lend), 0) ∧ TrZ n p m lend (az (be n ps)) sts ∧ tok n lend = true ∧ ((∃ t, t ∈ trL n p m (az (be n ps)) sts ∧ ce n ∈ t) ↔ ce n ∈ lend) := by
 rcases zo (o5 h).2.2.1 hb with ⟨e, _⟩ | ⟨sts, lend, e, h1, h2, h3, h4⟩
 · unfold lsT at hc
   rw [e] at hc
   exact absurd hc (by decide)
 · exact ⟨sts, lend, e, h2, h3, h4⟩
theorem ajh {p m : List Fd} : ∀ (F : Nat) (n : Int) (l : List Rw) (acc : List St), (fu F n l p m acc).1.length ≤ acc.length + F := by
 intro F
 induction F with
 | zero => intro n l acc; unfold fu; simp
 | succ F ih =>
  intro n l acc
  unfold fu
  split
  · simp
  · rename_i s _
    split
    rename_i n' l' e _
    split
    · have := ih n' l' (acc ++ [s])
      simp only [List.length_append, List.length_singleton] at this
      omega
    · simp
theorem aey (h : lvE n ps = 0) (hb : cq n p m = 0) : (lsT n ps p m).1.length ≤ FU := by
 obtain ⟨h0, h8, h64, _⟩ := o5 h
 have hT := a4k (ps := ps) h0 (by omega) h64
 have hck : ckE n (az (be n ps)) p m = 0 := (if_pos hT).trans hb
 unfold lsT
 rw [og hck]
 have := ajh (p := p) (m := m) FU n (az (be n ps)) []
 simpa using this
def a5u (n : Int) (t : List Rw) : Bool := t.any fun r => decide (r = ce n)
def prX (n : Int) (ps : List AS) (p m : List Fd) : Int := idx (fun a : Int × List Rw => a5u n a.2) (rcR n ps p m).2.1
def prC (n : Int) (ps : List AS) (p m : List Fd) : Int := if (rcR n ps p m).2.2 = 0 then (if prX n ps p m < 0 then 11 else 0) else (rcR n ps p m).2.2
def prS (n : Int) (ps : List AS) (p m : List Fd) : List St := if (rcR n ps p m).2.2 = 0 then (if prX n ps p m < 0 then [] else (rcR n ps p m).1.take (prX n ps p m).toNat) else []
theorem xu : (rcR n ps p m).2.2 = lsC n ps p m := by
 unfold rcR
 split
 · rename_i h; exact h.symm
 · rfl
theorem ak2 : ¬ lsC n ps p m = 11 := by
 intro h
 unfold lsC at h
 split at h
 · rename_i hv
   split at h
   · rename_i hb
     rcases zo (o5 hv).2.2.1 hb with ⟨e, _⟩ | ⟨sts, lend, e, _⟩
     · unfold lsT at h; rw [e] at h; exact absurd h (by decide)
     · unfold lsT at h; rw [e] at h; exact absurd (show (0 : Int) = 11 from h) (by decide)
   · unfold cq c8 at h
     (repeat' split at h) <;> omega
 · unfold lvE at h
   (repeat' split at h) <;> omega
theorem ady (hc : lsC n ps p m = 0) : (0 ≤ prX n ps p m) ↔ lsB n ps p m = true := by
 obtain ⟨h1, h2⟩ := a3x hc
 have hc2 : (lsT n ps p m).2.2 = 0 := (a8v h1 h2).symm.trans hc
 obtain ⟨sts, lend, e, _, _, h3⟩ := aki h1 h2 hc2
 have e1 : lsB n ps p m = decide (ce n ∈ lend) := by
  unfold lsB
  rw [decide_eq_true hc, Bool.true_and, e]
  exact tt
 have e2 : (rcR n ps p m).2.1 = jc n p m (az (be n ps)) sts := by rw [a8m hc, e]
 have e3 : (jc n p m (az (be n ps)) sts).any (fun a => a5u n a.2) = decide (0 ≤ prX n ps p m) := by
  unfold prX
  rw [e2]
  exact yk.symm
 rw [e1, decide_eq_true_iff, ← h3, ← decide_eq_true_iff (p := 0 ≤ prX n ps p m), ← e3, List.any_eq_true]
 unfold jc a5u
 constructor
 · rintro ⟨x, hx, h⟩
   obtain ⟨t, ht, rfl⟩ := List.mem_map.1 hx
   exact ⟨t, ht, by rw [tt] at h; exact of_decide_eq_true h⟩
 · rintro ⟨t, ht, h⟩
   exact ⟨(n, t), List.mem_map.2 ⟨t, ht, rfl⟩, by rw [tt]; exact decide_eq_true h⟩
theorem ayh (h : prC n ps p m = 11) : lsB n ps p m = false ∧ lsC n ps p m = 0 := by
 unfold prC at h
 rw [xu] at h
 split at h
 · rename_i hc
   split at h
   · rename_i hx
     refine ⟨?_, hc⟩
     rw [Bool.eq_false_iff]
     intro e
     have := (ady hc).2 e
     omega
   · exact absurd h (by decide)
 · exact absurd h ak2
theorem axk (h : ¬ prC n ps p m = 11) : decide (prC n ps p m = 0) = lsB n ps p m ∧ prC n ps p m = lsC n ps p m := by
 unfold prC at h ⊢
 rw [xu] at h ⊢
 split at h
 · rename_i hc
   split at h
   · exact absurd rfl h
   · rename_i hx
     rw [if_pos hc, if_neg hx, hc]
     refine ⟨?_, rfl⟩
     have := (ady hc).1 (by omega)
     rw [this]
     rfl
 · rename_i hc
   rw [if_neg hc]
   refine ⟨?_, rfl⟩
   unfold lsB
   rw [decide_eq_false hc]
   rfl
end
end Go.Hx
end
section
namespace Go.Hx
open Go.Proofs
theorem awx {n : Int} {ps : List AS} {p m : List Fd} (h : lvE n ps = 0) (hb : cq n p m = 0) (hc : (lsT n ps p m).2.2 = 0) : TrZ n p m (lsT n ps p m).2.1.2 (az (be n ps)) (lsT n ps p m).1 := by
 obtain ⟨sts, lend, e, htr, _⟩ := aki h hb hc
 rw [e]
 exact htr
theorem aub {n : Int} {ps : List AS} {p m : List Fd} (h : (rcR n ps p m).2.2 = 0) : (rcR n ps p m).2.1.length = (rcR n ps p m).1.length + 1 := by
 rw [xu] at h
 rw [a8m h]
 exact a2w
theorem b03 {n : Int} {ps : List AS} {p m : List Fd} (h : (rcR n ps p m).2.2 = 0) : 0 ≤ n ∧ n ≤ 16 ∧ (rcR n ps p m).1.length ≤ FU := by
 rw [xu] at h
 obtain ⟨h1, h2⟩ := a3x h
 rw [a8m h]
 have := o5 h1
 exact ⟨this.1, by omega, aey h1 h2⟩
theorem asm {n : Int} {l : List Rw} {T : List (Int × List Rw)} {e : TypeId} {N : Nat} {f : Nat → Nat → PV} (h : T = [(n, l)]) (hN : N = 1) (h0 : CoP (f 0 0) (.raw (.int .i64 n))) (h1 : CoP (f 0 1) (rl l)) : CoO (.arr true 2 e N f) (.arr true 2 e T.length (lf tbC T)) := by
 subst h hN
 refine ⟨fun h => h, rfl, rfl, rfl, fun a j ha hj => ?_⟩
 have ha : a = 0 := by
  have : a < 1 := ha
  omega
 subst ha
 match j, hj with
 | 0, _ => exact h0
 | 1, _ => exact h1
theorem amr {n : Nat} {l : List St} {i : Nat} {cl : Bool} (hn : n = (l.take i).length) {f : Nat → Nat → PV} (hf : ∀ a j, f a j = lf St.c l a j) : CoP (.sl n 4 cl f) (stl (l.take i)) := by
 refine CoP.sl hn.symm (.inl rfl) (fun h => by cases h) fun a j ha hj => CoP.of_eq ?_
 rw [hf]
 show St.c (l.getD a default) j = St.c ((l.take i).getD a default) j
 have : a < i := by rw [hn, List.length_take] at ha; omega
 rw [List.getD_eq_getElem?_getD, List.getD_eq_getElem?_getD, List.getElem?_take, if_pos this]
theorem as8 (n : Int) (ps : List AS) (h : lvE n ps = 0) : ah Tryz.prog 148 [pI n, pP (asl ps)] (ap [pT n (az (be n ps)), pI 0]) := by
 have := avp n ps
 rw [aaj h] at this
 exact this
theorem ao3 (n : Int) (ps : List AS) (h : lvE n ps = 0) : ah Tryz.prog 144 [pI n, pP (asl ps)] (ap [pT n (az (be n ps)), pI 0]) := by
 have := aqy n ps
 rw [aaj h] at this
 exact this
theorem atx (n : Int) (ps : List AS) (p m : List Fd) : ah Tryz.prog 149 [pT n (az (be n ps)), pP (fdl p), pP (fdl m)] (ap [pP (stl (lsT n ps p m).1), pT (lsT n ps p m).2.1.1 (lsT n ps p m).2.1.2, pI (lsT n ps p m).2.2]) :=
 ax3 FU n (az (be n ps)) p m (fun h => a94 h) (by decide)
theorem an8 (n : Int) (ps : List AS) (p m : List Fd) : ah Tryz.prog 145 [pT n (az (be n ps)), pP (fdl p), pP (fdl m)] (ap [pP (stl (lsT n ps p m).1), pT (lsT n ps p m).2.1.1 (lsT n ps p m).2.1.2, pI (lsT n ps p m).2.2]) :=
 asu FU n (az (be n ps)) p m (fun h => a94 h) (by decide)
theorem ah5 (n : Int) (l : List Rw) (p m : List Fd) (s : St) (hT : tok n l = true) (hb : cq n p m = 0) (h : ur l p m s) (he : dc n l p m s = (n, (dc n l p m s).2.1, 0)) : ah Tryz.prog 146 [pT n l, pP (fdl p), pP (fdl m), s.pc] (ap [pT n (dc n l p m s).2.1, pI 0]) := by
 have := a7g n l p m s ((if_pos hT).trans hb) h
 rw [he] at this
 exact this
theorem az3 {n : Int} {p m : List Fd} {l lend : List Rw} {sts : List St} {i : Nat} (hi : i < sts.length) (h : TrZ n p m lend l (sts.drop i)) : tok n l = true ∧ ur l p m (sts.getD i default) ∧ dc n l p m (sts.getD i default) = (n, (dc n l p m (sts.getD i default)).2.1, 0) := by
 have e : sts.drop i = sts.getD i default :: sts.drop (i + 1) := by
  rw [List.drop_eq_getElem_cons hi, List.getD_eq_getElem?_getD, List.getElem?_eq_getElem hi]; rfl
 rw [e] at h
 obtain ⟨h1, h2, l', h3, h4, h5⟩ := h
 rw [h3]
 exact ⟨h1, h2, rfl⟩
end Go.Hx
end
