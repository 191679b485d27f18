/- A part of the proof: lemmas for the theorem of this claim, merged by a program of ours out of Ch7, X11, Ch8, X12, Ch9, X13, Ch10. -/
import Derived.Test.YtidophngianjiaaGreatDoorP33
set_option linter.all false
section
namespace Go.Hx
def addE (n : Int) (l : List Rw) (row : Rw) : Int × List Rw × Int := if 256 < (canon (l ++ [row])).length then (0, [], 3) else (n, canon (l ++ [row]), 0)
theorem co_nilZ {s : Nat} {f : Nat → Nat → PV} : CoP (.sl 0 s true f) (rl []) := CoP.sl rfl (.inr rfl) (fun h => by cases h) fun i j hi _ => absurd hi (Nat.not_lt_zero i)
def fdE (n : Int) (l : List Rw) (a b : Nat) (x : Fd) : Int × List Rw × Int := if agrZ (l.getD a default) (l.getD b default) x.lhs = true then (n, canon (rowsOf l (eqMs (matOf l) a b (membs x.rhs))), 0) else (0, [], 1)
def mvE (n : Int) (l : List Rw) (a b : Nat) (x : Fd) : Int × List Rw × Int := if agrZ (l.getD a default) (l.getD b default) x.lhs = true then addE n l (mixZ (l.getD a default) (l.getD b default) (x.lhs ||| x.rhs)) else (0, [], 1)
theorem tok_get {n : Int} {l : List Rw} (h : tok n l = true) : 0 ≤ n ∧ n ≤ 16 ∧ l.length ≤ 256 ∧ ∀ i, i < l.length → (l.getD i default).length = n.toNat := by
 unfold tok at h
 rw [Bool.and_eq_true, decide_eq_true_iff, decide_eq_true_iff] at h
 obtain ⟨⟨h0, h1, h2⟩, h3⟩ := h
 refine ⟨h0, h1, h2, fun i hi => ?_⟩
 have := h3 i hi
 unfold tokR at this
 rw [Bool.and_eq_true, Bool.and_eq_true, decide_eq_true_iff] at this
 omega
theorem memb_in {n : Int} (h0 : 0 ≤ n) (h1 : n ≤ 16) {x : Fd} (h : inU n x = true) {j : Nat} (hj : j ∈ membs x.rhs) : j < n.toNat := by
 obtain ⟨_, h3⟩ := (inU_iff h0 h1).1 h
 obtain ⟨h4, h5⟩ := mem_membs.1 hj
 have h6 : x.rhs >>> n.toNat = 0 := (within_iff (n := n.toNat) (by omega)).1 (by unfold fullI at h3; rwa [Nat.min_eq_left (by omega)] at h3)
 rcases Nat.lt_or_ge j n.toNat with h | h
 · exact h
 · rw [shr0.1 h6 j h4 h] at h5; cases h5
end Go.Hx
end
section
namespace Go.Hx
open Go.Proofs
set_option maxRecDepth 100000
theorem good219 : goodFn Tryz.prog 219 := ⟨Tryz.f219, Tryz.func219, by kernel_rfl, by kernel_rfl⟩
theorem cAdd (n : Int) (l : List Rw) (row : Rw) (hl : ∀ i, i < l.length → (l.getD i default).length ≤ 17592186044416) (hl2 : l.length ≤ 4294967296) : HPure Tryz.prog 219 [pT n l, pZ row] (prOf [pT (addE n l row).1 (addE n l row).2.1, pI (addE n l row).2.2]) := by
 refine hpure_of (nt := 23) Tryzok Tryz.func219 rfl rfl l9 ?_; refine hw_seq ?_; refine gy ?_; refine m9 0 ?_; refine m9 1 ?_; refine qy ?_; refine rg_nil ?_; refine hw_seq ?_; refine gy ?_; refine qy ?_
 refine rg_fcall rfl rfl rfl rfl rfl rfl good181 (cCopied n l hl (by omega)) (CoHCL.refl _) trivial rfl rfl ?_; refine m9 2 ?_; refine s9 ?_; refine rg_nil ?_; refine hw_seq ?_; refine gy ?_; (iterate 3 refine qy ?_)
 refine m9 3 ?_; refine ra 4 true rfl rfl rfl rfl rfl rfl ?_; refine qy ?_; refine s9 ?_; refine rg_nil ?_; refine hw_seq ?_; refine gy ?_; refine qy ?_
 refine rg_fcall rfl rfl rfl rfl rfl rfl good179 ((cSorted n (l ++ [row]) (by simp; omega)).swap 900 901) (⟨⟨CoP.refl _, congrArg (HV.ref 901) (by simp), trivial⟩, trivial⟩) ⟨⟨_, rfl, arr_app1 rfl (CoP.refl _)⟩, trivial⟩ rfl rfl ?_
 refine s9 ?_; refine rg_nil ?_; (iterate 2 refine hw_seq ?_); refine gy ?_; (iterate 4 refine qy ?_); refine rg_nil ?_; refine hw_cond _ rfl (fun r0 => ?_) (fun r0 => ?_)
 ·
  have h0 := of_decide_eq_true r0
  try simp only [ty] at h0
  refine hw_seq ?_; refine gy ?_; refine qy ?_; refine s9 ?_; refine qy ?_; refine rg_nil ?_; refine hw_ret ?_; refine ⟨.inr rfl, ?_⟩
  have he : addE n l row = (0, [], 3) := if_pos (by omega)
  exact f9 rfl rfl (by rw [he]; exact ⟨CoC.agg ⟨CoP.refl _, co_nilZ, trivial⟩, CoC.refl _, trivial⟩)
 ·
  have h0 := of_decide_eq_false r0
  try simp only [ty] at h0
  refine hw_skip ?_; refine hw_seq ?_; refine gy ?_; refine qy ?_; refine s9 ?_; refine qy ?_; refine rg_nil ?_; refine hw_ret ?_; refine ⟨.inr rfl, ?_⟩
  have he : addE n l row = (n, canon (l ++ [row]), 0) := if_neg (by omega)
  exact f9 rfl rfl (by rw [he]; exact CoL.refl _)
theorem good183 : goodFn Tryz.prog 183 := ⟨Tryz.f183, Tryz.func183, by kernel_rfl, by kernel_rfl⟩
theorem cApplyF (n : Int) (l : List Rw) (p m : List Fd) (i a b : Nat) (hT : tok n l = true) (ha : a < l.length) (hb : b < l.length) (hi : i < p.length) (hu : inU n (p.getD i default) = true) : HPure Tryz.prog 183 [pT n l, pP (fdl p), pP (fdl m), .agg [.raw (.bool false), .raw (.int .i64 (i : Int)), .raw (.int .i64 (a : Int)), .raw (.int .i64 (b : Int))]] (prOf [pT (fdE n l a b (p.getD i default)).1 (fdE n l a b (p.getD i default)).2.1, pI (fdE n l a b (p.getD i default)).2.2]) := by
 refine hpure_of (nt := 75) Tryzok Tryz.func183 rfl rfl l9 ?_; refine hw_seq ?_
 obtain ⟨hn0, hn16, hl256, hrow⟩ := tok_get hT
 have hra := hrow a ha
 have hrb := hrow b hb
 have hbig : ∀ i, i < l.length → (l.getD i default).length ≤ 17592186044416 := fun i hi => by rw [hrow i hi]; omega
 refine gy ?_; refine m9 0 ?_; refine m9 1 ?_; refine m9 2 ?_; refine qy ?_; refine rg_nil ?_; refine hw_seq ?_; refine hw_draw (E := TryzE) Tryzok Tryzmixed [0, 1, 2, 3, 4, 5, 6, 7, 8, 9, 10, 11, 12, 13] ?_
 (iterate 14 refine qy ?_); refine rg_nil ?_; refine ⟨by kernel_rfl, ?_⟩; (iterate 2 refine hw_seq ?_); refine gy ?_; (iterate 3 refine qy ?_); refine rg_nil ?_; refine hw_cond _ rfl (fun _ => ?_) (fun e => by cases e)
 (iterate 2 refine hw_seq ?_); refine gy ?_; (iterate 8 refine qy ?_); refine rc rfl rfl rfl rfl rfl rfl good216 (cAgree (l.getD a default) (l.getD b default) (p.getD i default).lhs (by omega) (by omega)) (CoL.refl _) rfl rfl ?_
 refine qy ?_; refine rg_nil ?_; refine hw_cond _ rfl (fun r0 => ?_) (fun r0 => ?_)
 ·
  have h0 := r0
  have h0 := not_t h0
  refine hw_seq ?_; refine gy ?_; refine qy ?_; refine s9 ?_; refine qy ?_; refine rg_nil ?_; refine hw_ret ?_; refine ⟨.inr rfl, ?_⟩
  have he : fdE n l a b (p.getD i default) = (0, [], 1) := if_neg (by simp_all)
  exact f9 rfl rfl (by rw [he]; exact ⟨CoC.agg ⟨CoP.refl _, co_nilZ, trivial⟩, CoC.refl _, trivial⟩)
 ·
  have h0 := r0
  have h0 := not_f h0
  refine hw_skip ?_; refine hw_seq ?_; refine hw_draw (E := TryzE) Tryzok Tryzmixed [0, 1, 2, 3, 4, 5, 6, 7, 8, 9, 10, 11, 12, 13] ?_; (iterate 11 refine qy ?_)
  refine rc rfl rfl rfl rfl rfl rfl good218 (cEquate n l (p.getD i default).rhs a b hbig (by omega) ha hb (fun j hj i hi => by rw [hrow i hi]; exact memb_in hn0 hn16 hu hj)) (CoL.refl _) rfl rfl ?_; refine s9 ?_; refine qy ?_
  refine rg_nil ?_; refine ⟨by kernel_rfl, ?_⟩; refine hw_ret ?_; refine ⟨.inr rfl, ?_⟩
  have he : fdE n l a b (p.getD i default) = (n, canon (rowsOf l (eqMs (matOf l) a b (membs (p.getD i default).rhs))), 0) := if_pos (by simp_all)
  exact f9 rfl rfl (by rw [he]; exact CoL.refl _)
theorem cApplyM (n : Int) (l : List Rw) (p m : List Fd) (i a b : Nat) (hT : tok n l = true) (ha : a < l.length) (hb : b < l.length) (hi : i < m.length) : HPure Tryz.prog 183 [pT n l, pP (fdl p), pP (fdl m), .agg [.raw (.bool true), .raw (.int .i64 (i : Int)), .raw (.int .i64 (a : Int)), .raw (.int .i64 (b : Int))]] (prOf [pT (mvE n l a b (m.getD i default)).1 (mvE n l a b (m.getD i default)).2.1, pI (mvE n l a b (m.getD i default)).2.2]) := by
 refine hpure_of (nt := 75) Tryzok Tryz.func183 rfl rfl l9 ?_; refine hw_seq ?_
 obtain ⟨hn0, hn16, hl256, hrow⟩ := tok_get hT
 have hra := hrow a ha
 have hrb := hrow b hb
 have hbig : ∀ i, i < l.length → (l.getD i default).length ≤ 17592186044416 := fun i hi => by rw [hrow i hi]; omega
 refine gy ?_; refine m9 0 ?_; refine m9 1 ?_; refine m9 2 ?_; refine qy ?_; refine rg_nil ?_; refine hw_seq ?_; refine hw_draw (E := TryzE) Tryzok Tryzmixed [0, 1, 2, 3, 4, 5, 6, 7, 8, 9, 10, 11, 12, 13] ?_
 (iterate 14 refine qy ?_); refine rg_nil ?_; refine ⟨by kernel_rfl, ?_⟩; (iterate 2 refine hw_seq ?_); refine gy ?_; (iterate 3 refine qy ?_); refine rg_nil ?_; refine hw_cond _ rfl (fun e => by cases e) (fun _ => ?_)
 refine hw_skip ?_; refine hw_seq ?_; refine gy ?_; (iterate 5 refine qy ?_); refine m9 3 ?_; refine s9 ?_; refine rg_nil ?_; (iterate 2 refine hw_seq ?_); refine gy ?_; (iterate 4 refine qy ?_)
 refine rc rfl rfl rfl rfl rfl rfl good216 (cAgree (l.getD a default) (l.getD b default) (m.getD i default).lhs (by omega) (by omega)) (CoL.refl _) rfl rfl ?_; refine qy ?_; refine rg_nil ?_
 refine hw_cond _ rfl (fun r0 => ?_) (fun r0 => ?_)
 ·
  have h0 := r0
  have h0 := not_t h0
  refine hw_seq ?_; refine gy ?_; refine qy ?_; refine s9 ?_; refine qy ?_; refine rg_nil ?_; refine hw_ret ?_; refine ⟨.inr rfl, ?_⟩
  have he : mvE n l a b (m.getD i default) = (0, [], 1) := if_neg (by simp_all)
  exact f9 rfl rfl (by rw [he]; exact ⟨CoC.agg ⟨CoP.refl _, co_nilZ, trivial⟩, CoC.refl _, trivial⟩)
 ·
  have h0 := r0
  have h0 := not_f h0
  refine hw_skip ?_; refine hw_seq ?_; refine hw_draw (E := TryzE) Tryzok Tryzmixed [0, 1, 2, 3, 4, 5, 6, 7, 8, 9, 10, 11, 12, 13] ?_; (iterate 8 refine qy ?_)
  refine rc rfl rfl rfl rfl rfl rfl good217 (cMixed (l.getD a default) (l.getD b default) ((m.getD i default).lhs ||| (m.getD i default).rhs) (by omega) (by omega)) (⟨CoC.refl _, CoC.refl _, cci (by rw [bOr]; rfl), trivial⟩) rfl rfl ?_
  refine rc rfl rfl rfl rfl rfl rfl good219 (cAdd n l (mixZ (l.getD a default) (l.getD b default) ((m.getD i default).lhs ||| (m.getD i default).rhs)) hbig (by omega)) (CoL.refl _) rfl rfl ?_; (iterate 2 refine qy ?_)
  refine s9 ?_; refine qy ?_; refine rg_nil ?_; refine ⟨by kernel_rfl, ?_⟩; refine hw_ret ?_; refine ⟨.inr rfl, ?_⟩
  have he : mvE n l a b (m.getD i default) = addE n l (mixZ (l.getD a default) (l.getD b default) ((m.getD i default).lhs ||| (m.getD i default).rhs)) := if_pos (by simp_all)
  exact f9 rfl rfl (by rw [he]; exact CoL.refl _)
end Go.Hx
end
section
namespace Go.Hx
def firstF (P : Nat → Nat → Nat → Bool) (I L : Nat) : Option (Nat × Nat × Nat) :=
 (List.range I).findSome? fun i => (List.range L).findSome? fun a => ((List.range L).find? fun b => P i a b).map fun b => (i, a, b)
theorem fs_some {α : Type} {f : Nat → Option α} : ∀ {n k : Nat} {x : α}, k < n → f k = some x → (∀ j, j < k → f j = none) → (List.range n).findSome? f = some x
 | n + 1, k, x, hk, h, hb => by
  rw [List.range_succ, List.findSome?_append]
  by_cases e : k < n
  · rw [fs_some e h hb]; rfl
  · obtain rfl : k = n := by omega
    have : (List.range k).findSome? f = none := by
     rw [List.findSome?_eq_none_iff]
     intro j hj
     exact hb j (List.mem_range.1 hj)
    rw [this]
    simp [h]
theorem fs_none {α : Type} {f : Nat → Option α} {n : Nat} (h : ∀ j, j < n → f j = none) : (List.range n).findSome? f = none := by
 rw [List.findSome?_eq_none_iff]
 intro j hj
 exact h j (List.mem_range.1 hj)
theorem fd_none {p : Nat → Bool} {n : Nat} (h : ∀ j, j < n → p j = false) : (List.range n).find? p = none := by
 rw [List.find?_eq_none]
 intro j hj
 rw [h j (List.mem_range.1 hj)]
 decide
theorem fd_some {p : Nat → Bool} {n k : Nat} (hk : k < n) (h : p k = true) (hb : ∀ j, j < k → p j = false) : (List.range n).find? p = some k := by
 induction n with
 | zero => omega
 | succ n ih =>
  rw [List.range_succ, List.find?_append]
  by_cases e : k < n
  · rw [ih e]; rfl
  · obtain rfl : k = n := by omega
    rw [fd_none hb]
    simp [h]
theorem firstF_some {P : Nat → Nat → Nat → Bool} {I L i a b : Nat} (hi : i < I) (ha : a < L) (hb : b < L) (h : P i a b = true) (h1 : ∀ i', i' < i → ∀ a', a' < L → ∀ b', b' < L → P i' a' b' = false) (h2 : ∀ a', a' < a → ∀ b', b' < L → P i a' b' = false) (h3 : ∀ b', b' < b → P i a b' = false) :
 firstF P I L = some (i, a, b) := by
 refine fs_some hi ?_ fun j hj => fs_none fun a' ha' => by rw [fd_none fun b' hb' => h1 j hj a' ha' b' hb']; rfl
 refine fs_some ha ?_ fun a' ha' => by rw [fd_none fun b' hb' => h2 a' ha' b' hb']; rfl
 rw [fd_some hb h h3]
 rfl
theorem firstF_none {P : Nat → Nat → Nat → Bool} {I L : Nat} (h : ∀ i', i' < I → ∀ a', a' < L → ∀ b', b' < L → P i' a' b' = false) : firstF P I L = none :=
 fs_none fun i hi => fs_none fun a ha => by rw [fd_none fun b hb => h i hi a ha b hb]; rfl
def stepF (l : List Rw) (x : Fd) (a b : Nat) : Bool := agrZ (l.getD a default) (l.getD b default) x.lhs && !agrZ (l.getD a default) (l.getD b default) x.rhs
def stepM (l : List Rw) (x : Fd) (a b : Nat) : Bool := agrZ (l.getD a default) (l.getD b default) x.lhs && !(l.any fun r => decide (r = mixZ (l.getD a default) (l.getD b default) (x.lhs ||| x.rhs)))
section
variable {l : List Rw} {x : Fd} {a b : Nat}
theorem stepF_t (h : agrZ (l.getD a default) (l.getD b default) x.lhs = true) (h2 : agrZ (l.getD a default) (l.getD b default) x.rhs = false) : stepF l x a b = true := by unfold stepF; rw [h, h2]; rfl
theorem stepF_f1 (h : agrZ (l.getD a default) (l.getD b default) x.lhs = false) : stepF l x a b = false := by unfold stepF; rw [h]; rfl
theorem stepF_f2 (h : agrZ (l.getD a default) (l.getD b default) x.rhs = true) : stepF l x a b = false := by unfold stepF; rw [h]; simp
theorem stepM_t (h : agrZ (l.getD a default) (l.getD b default) x.lhs = true) (h2 : (l.any fun r => decide (r = mixZ (l.getD a default) (l.getD b default) (x.lhs ||| x.rhs))) = false) : stepM l x a b = true := by unfold stepM; rw [h, h2]; rfl
theorem stepM_f1 (h : agrZ (l.getD a default) (l.getD b default) x.lhs = false) : stepM l x a b = false := by unfold stepM; rw [h]; rfl
theorem stepM_f2 (h : (l.any fun r => decide (r = mixZ (l.getD a default) (l.getD b default) (x.lhs ||| x.rhs))) = true) : stepM l x a b = false := by unfold stepM; rw [h]; simp
end
abbrev St := Bool × Nat × Nat × Nat
abbrev St.pc (s : St) : PC := .agg [.raw (.bool s.1), .raw (.int .i64 (s.2.1 : Int)), .raw (.int .i64 (s.2.2.1 : Int)), .raw (.int .i64 (s.2.2.2 : Int))]
def nextE (l : List Rw) (p m : List Fd) : Option St :=
 match firstF (fun i a b => stepF l (p.getD i default) a b) p.length l.length with
 | some x => some (false, x)
 | none => (firstF (fun i a b => stepM l (m.getD i default) a b) m.length l.length).map fun x => (true, x)
theorem nextE_f {l : List Rw} {p m : List Fd} {x : Nat × Nat × Nat} (h : firstF (fun i a b => stepF l (p.getD i default) a b) p.length l.length = some x) : nextE l p m = some (false, x) := by unfold nextE; rw [h]
theorem nextE_m {l : List Rw} {p m : List Fd} {x : Nat × Nat × Nat} (h0 : firstF (fun i a b => stepF l (p.getD i default) a b) p.length l.length = none) (h : firstF (fun i a b => stepM l (m.getD i default) a b) m.length l.length = some x) : nextE l p m = some (true, x) := by unfold nextE; rw [h0, h]; rfl
theorem nextE_n {l : List Rw} {p m : List Fd} (h0 : firstF (fun i a b => stepF l (p.getD i default) a b) p.length l.length = none) (h : firstF (fun i a b => stepM l (m.getD i default) a b) m.length l.length = none) : nextE l p m = none := by unfold nextE; rw [h0, h]; rfl
end Go.Hx
end
section
namespace Go.Hx
open Go.Proofs
set_option maxRecDepth 100000
set_option maxHeartbeats 1000000
theorem good182 : goodFn Tryz.prog 182 := ⟨Tryz.f182, Tryz.func182, by kernel_rfl, by kernel_rfl⟩
theorem cNextZ (n : Int) (l : List Rw) (p m : List Fd) (hT : tok n l = true) : HPure Tryz.prog 182 [pT n l, pP (fdl p), pP (fdl m)] (prOf [St.pc ((nextE l p m).getD (false, 0, 0, 0)), pB (nextE l p m).isSome]) := by
 refine hpure_of (nt := 132) Tryzok Tryz.func182 rfl rfl l9 ?_; refine hw_seq ?_
 obtain ⟨hn0, hn16, hl256, hrow⟩ := tok_get hT
 refine hw_bt 1 rfl fun hn1 => ?_
 refine hw_bt 2 rfl fun hn2 => ?_
 refine gy ?_; refine m9 0 ?_; refine m9 1 ?_; refine qy ?_; refine rg_nil ?_; (iterate 2 refine hw_seq ?_); refine gy ?_; (iterate 3 refine qy ?_); refine rg_nil ?_; refine hw_block ?_
 refine hw_loopK (ι := Nat) ⟨[(2, some _), (3, some _), (6, some _), (16, some _), (17, some _)], [(0, some _), (1, some _)]⟩ ⟨⟨c9, c9, c9, c9, c9, trivial⟩, ⟨u9, u9, trivial⟩⟩ (fun i => ⟨[(18, some (vI i))], []⟩) (fun i => i ≤ p.length ∧ (∀ i', i' < i → ∀ a', a' < l.length → ∀ b', b' < l.length → stepF l (p.getD i' default) a' b' = false)) (fun i => p.length - i) (0) (⟨Nat.zero_le _, all_zero⟩) ⟨⟨zy, trivial⟩, trivial⟩ ?_
 rintro i ⟨hi, hI⟩
 refine hw_seq ?_; refine gy ?_; refine qy ?_; refine rg_nil ?_; refine hw_seq ?_; refine hw_cond _ rfl (fun r0 => ?_) (fun r0 => ?_)
 ·
  have h0 := of_decide_eq_true r0
  try simp only [ty] at h0
  refine hw_skip ?_; refine hw_seq ?_; refine hw_block ?_; refine hw_seq ?_; refine gy ?_; (iterate 3 refine qy ?_); refine m9 2 ?_; refine qy ?_; refine s9 ?_; refine rg_nil ?_; refine hw_seq ?_; refine gy ?_
  (iterate 4 refine qy ?_); refine rg_nil ?_; refine hw_block ?_
  refine hw_loopK (ι := Nat) ⟨[(2, some _), (3, some _), (6, some _), (8, some _), (9, some _), (16, some _), (17, some _), (18, some _), (25, some _)], [(0, some _), (1, some _), (2, some _)]⟩ ⟨⟨c9, c9, c9, c9, c9, c9, c9, c9, c9, trivial⟩, ⟨u9, u9, u9, trivial⟩⟩ (fun a => ⟨[(26, some (vI a))], []⟩) (fun a => a ≤ l.length ∧ (∀ a', a' < a → ∀ b', b' < l.length → stepF l (p.getD i default) a' b' = false)) (fun a => l.length - a) (0) (⟨Nat.zero_le _, all_zero⟩) ⟨⟨zy, trivial⟩, trivial⟩ ?_
  rintro a ⟨ha, hA⟩
  refine hw_seq ?_; refine gy ?_; refine qy ?_; refine rg_nil ?_; refine hw_seq ?_; refine hw_cond _ rfl (fun r1 => ?_) (fun r1 => ?_)
  ·
   have h1 := of_decide_eq_true r1
   try simp only [ty] at h1
   refine hw_skip ?_; refine hw_seq ?_; refine hw_block ?_; refine hw_seq ?_; refine gy ?_; (iterate 2 refine qy ?_); refine rg_nil ?_; refine hw_seq ?_; refine gy ?_; (iterate 4 refine qy ?_); refine rg_nil ?_
   refine hw_block ?_
   refine hw_loopK (ι := Nat) ⟨[(2, some _), (3, some _), (6, some _), (8, some _), (9, some _), (10, some _), (16, some _), (17, some _), (18, some _), (25, some _), (26, some _), (31, some _)], [(0, some _), (1, some _), (2, some _)]⟩ ⟨⟨c9, c9, c9, c9, c9, c9, c9, c9, c9, c9, c9, c9, trivial⟩, ⟨u9, u9, u9, trivial⟩⟩ (fun b => ⟨[(32, some (vI b))], []⟩) (fun b => b ≤ l.length ∧ (∀ b', b' < b → stepF l (p.getD i default) a b' = false)) (fun b => l.length - b) (0) (⟨Nat.zero_le _, all_zero⟩) ⟨⟨zy, trivial⟩, trivial⟩ ?_
   rintro b ⟨hb, hB⟩
   refine hw_seq ?_; refine gy ?_; refine qy ?_; refine rg_nil ?_; refine hw_seq ?_; refine hw_cond _ rfl (fun r2 => ?_) (fun r2 => ?_)
   ·
    have h2 := of_decide_eq_true r2
    try simp only [ty] at h2
    refine hw_skip ?_; refine hw_seq ?_; refine hw_block ?_; refine hw_seq ?_; refine gy ?_; (iterate 2 refine qy ?_); refine rg_nil ?_; refine hw_seq ?_
    refine hw_draw (E := TryzE) Tryzok Tryzmixed [0, 1, 2, 3, 4, 5, 6, 7, 8, 9, 10, 11, 12, 13, 14, 15, 16, 17, 18, 19, 20, 21, 22, 23, 24, 25, 26, 27, 28] ?_; (iterate 12 refine qy ?_)
    refine rc rfl rfl rfl rfl rfl rfl good216 (cAgree (l.getD a default) (l.getD b default) (p.getD i default).lhs (by rw [hrow _ (by omega), hrow _ (by omega)]) (by rw [hrow _ (by omega)]; omega)) (CoL.refl _) rfl rfl ?_
    refine qy ?_; refine rsplit rfl rfl (fun r3 => ?_) (fun r3 => ?_)
    ·
     have h3 := r3
     (iterate 12 refine qy ?_ (hg := (gtt r3)))
     refine rc rfl rfl rfl rfl rfl rfl good216 (cAgree (l.getD a default) (l.getD b default) (p.getD i default).rhs (by rw [hrow _ (by omega), hrow _ (by omega)]) (by rw [hrow _ (by omega)]; omega)) (CoL.refl _) rfl (gtt r3) ?_
     refine qy ?_ (hg := (gtt r3)); refine qy ?_; refine rg_nil ?_; refine ⟨by kernel_rfl, ?_⟩; refine hw_cond _ rfl (fun r4 => ?_) (fun r4 => ?_)
     ·
      have h4 := r4
      have h4 := bif_t r3 h4
      have h4 := not_t h4
      refine hw_seq ?_; refine gy ?_; (iterate 4 refine qy ?_); refine s9 ?_; refine qy ?_; refine rg_nil ?_; refine hw_ret ?_; refine ⟨.inr rfl, ?_⟩
      have he := nextE_f (m := m) (firstF_some (P := fun i a b => stepF l (p.getD i default) a b) (i := i) (a := a) (b := b) (by omega) (by omega) (by omega) (stepF_t (by assumption) (by assumption)) hI hA hB)
      exact f9 rfl rfl (by rw [he]; exact CoL.refl _)
     ·
      have h4 := r4
      have h4 := bif_t r3 h4
      have h4 := not_f h4
      refine hw_skip ?_; refine gy ?_; (iterate 2 refine qy ?_); refine rg_nil ?_; refine ⟨b + 1, ?_, ?_, ?_⟩
      · exact ⟨by show b + 1 ≤ _; omega, all_succ hB (by first | exact stepF_f1 (by assumption) | exact stepF_f2 (by assumption))⟩
      · first | omega | (dsimp only; omega)
      · exact ⟨⟨zy, c9, c9, c9, c9, c9, c9, c9, c9, c9, c9, c9, c9, trivial⟩, ⟨u9, u9, u9, trivial⟩⟩
    ·
     have h3 := r3
     (iterate 14 refine k9 (gft r3) ?_); refine rq rfl rfl rfl rfl rfl ?_ (hp := r3); refine rg_nil ?_; refine ⟨by kernel_rfl, ?_⟩; refine hw_cond _ rfl (fun e => by cases e) (fun _ => ?_); refine hw_skip ?_; refine gy ?_
     (iterate 2 refine qy ?_); refine rg_nil ?_; refine ⟨b + 1, ?_, ?_, ?_⟩
     · exact ⟨by show b + 1 ≤ _; omega, all_succ hB (by first | exact stepF_f1 (by assumption) | exact stepF_f2 (by assumption))⟩
     · first | omega | (dsimp only; omega)
     · exact ⟨⟨zy, c9, c9, c9, c9, c9, c9, c9, c9, c9, c9, c9, c9, trivial⟩, ⟨u9, u9, u9, trivial⟩⟩
   ·
    have h2 := of_decide_eq_false r2
    try simp only [ty] at h2
    refine hw_exit ?_; refine gy ?_; (iterate 2 refine qy ?_); refine rg_nil ?_; refine ⟨a + 1, ?_, ?_, ?_⟩
    · exact ⟨by show a + 1 ≤ _; omega, all_succ hA (fun b' hb' => hB b' (by omega))⟩
    · first | omega | (dsimp only; omega)
    · exact ⟨⟨zy, c9, c9, c9, c9, c9, c9, c9, c9, c9, trivial⟩, ⟨u9, u9, u9, trivial⟩⟩
  ·
   have h1 := of_decide_eq_false r1
   try simp only [ty] at h1
   refine hw_exit ?_; refine gy ?_; (iterate 2 refine qy ?_); refine rg_nil ?_; refine ⟨i + 1, ?_, ?_, ?_⟩
   · exact ⟨by show i + 1 ≤ _; omega, all_succ hI (fun a' ha' => hA a' (by omega))⟩
   · first | omega | (dsimp only; omega)
   · exact ⟨⟨zy, c9, c9, c9, c9, c9, trivial⟩, ⟨u9, u9, trivial⟩⟩
 ·
  have h0 := of_decide_eq_false r0
  try simp only [ty] at h0
  obtain rfl : i = p.length := by omega
  have hno := firstF_none (P := fun i a b => stepF l (p.getD i default) a b) (I := p.length) (L := l.length) hI
  refine hw_exit ?_; (iterate 2 refine hw_seq ?_); refine gy ?_; (iterate 3 refine qy ?_); refine rg_nil ?_; refine hw_block ?_
  refine hw_loopK (ι := Nat) ⟨[(3, some _), (6, some _), (71, some _), (72, some _)], [(0, some _), (1, some _)]⟩ ⟨⟨c9, c9, c9, c9, trivial⟩, ⟨u9, u9, trivial⟩⟩ (fun k => ⟨[(73, some (vI k))], []⟩) (fun k => k ≤ m.length ∧ (∀ i', i' < k → ∀ a', a' < l.length → ∀ b', b' < l.length → stepM l (m.getD i' default) a' b' = false)) (fun k => m.length - k) (0) (⟨Nat.zero_le _, all_zero⟩) ⟨⟨zy, trivial⟩, trivial⟩ ?_
  rintro k ⟨hk, hK⟩
  refine hw_seq ?_; refine gy ?_; refine qy ?_; refine rg_nil ?_; refine hw_seq ?_; refine hw_cond _ rfl (fun r5 => ?_) (fun r5 => ?_)
  ·
   have h5 := of_decide_eq_true r5
   try simp only [ty] at h5
   refine hw_skip ?_; refine hw_seq ?_; refine hw_block ?_; refine hw_seq ?_; refine gy ?_; (iterate 3 refine qy ?_); refine m9 3 ?_; refine qy ?_; refine s9 ?_; refine rg_nil ?_; refine hw_seq ?_; refine gy ?_
   (iterate 4 refine qy ?_); refine rg_nil ?_; refine hw_block ?_
   refine hw_loopK (ι := Nat) ⟨[(3, some _), (6, some _), (12, some _), (13, some _), (71, some _), (72, some _), (73, some _), (80, some _)], [(0, some _), (1, some _), (3, some _)]⟩ ⟨⟨c9, c9, c9, c9, c9, c9, c9, c9, trivial⟩, ⟨u9, u9, u9, trivial⟩⟩ (fun c => ⟨[(81, some (vI c))], []⟩) (fun c => c ≤ l.length ∧ (∀ a', a' < c → ∀ b', b' < l.length → stepM l (m.getD k default) a' b' = false)) (fun c => l.length - c) (0) (⟨Nat.zero_le _, all_zero⟩) ⟨⟨zy, trivial⟩, trivial⟩ ?_
   rintro c ⟨hc, hC⟩
   refine hw_seq ?_; refine gy ?_; refine qy ?_; refine rg_nil ?_; refine hw_seq ?_; refine hw_cond _ rfl (fun r6 => ?_) (fun r6 => ?_)
   ·
    have h6 := of_decide_eq_true r6
    try simp only [ty] at h6
    refine hw_skip ?_; refine hw_seq ?_; refine hw_block ?_; refine hw_seq ?_; refine gy ?_; (iterate 2 refine qy ?_); refine rg_nil ?_; refine hw_seq ?_; refine gy ?_; (iterate 4 refine qy ?_); refine rg_nil ?_
    refine hw_block ?_
    refine hw_loopK (ι := Nat) ⟨[(3, some _), (6, some _), (12, some _), (13, some _), (14, some _), (71, some _), (72, some _), (73, some _), (80, some _), (81, some _), (86, some _)], [(0, some _), (1, some _), (3, some _)]⟩ ⟨⟨c9, c9, c9, c9, c9, c9, c9, c9, c9, c9, c9, trivial⟩, ⟨u9, u9, u9, trivial⟩⟩ (fun d => ⟨[(87, some (vI d))], []⟩) (fun d => d ≤ l.length ∧ (∀ b', b' < d → stepM l (m.getD k default) c b' = false)) (fun d => l.length - d) (0) (⟨Nat.zero_le _, all_zero⟩) ⟨⟨zy, trivial⟩, trivial⟩ ?_
    rintro d ⟨hd, hD⟩
    refine hw_seq ?_; refine gy ?_; refine qy ?_; refine rg_nil ?_; refine hw_seq ?_; refine hw_cond _ rfl (fun r7 => ?_) (fun r7 => ?_)
    ·
     have h7 := of_decide_eq_true r7
     try simp only [ty] at h7
     refine hw_skip ?_; refine hw_seq ?_; refine hw_block ?_; refine hw_seq ?_; refine gy ?_; (iterate 2 refine qy ?_); refine rg_nil ?_; refine hw_seq ?_
     refine hw_draw (E := TryzE) Tryzok Tryzmixed [0, 1, 2, 3, 4, 5, 6, 7, 8, 9, 10, 11, 12, 13, 14, 15, 16, 17, 18, 19, 20, 21, 22, 23, 24, 25, 26, 27, 28, 29, 30, 31, 32, 33] ?_; (iterate 12 refine qy ?_)
     refine rc rfl rfl rfl rfl rfl rfl good216 (cAgree (l.getD c default) (l.getD d default) (m.getD k default).lhs (by rw [hrow _ (by omega), hrow _ (by omega)]) (by rw [hrow _ (by omega)]; omega)) (CoL.refl _) rfl rfl ?_
     refine qy ?_; refine rsplit rfl rfl (fun r8 => ?_) (fun r8 => ?_)
     ·
      have h8 := r8
      (iterate 16 refine qy ?_ (hg := (gtt r8)))
      refine rc rfl rfl rfl rfl rfl rfl good217 (cMixed (l.getD c default) (l.getD d default) ((m.getD k default).lhs ||| (m.getD k default).rhs) (by rw [hrow _ (by omega), hrow _ (by omega)]) (by rw [hrow _ (by omega)]; omega)) (⟨CoC.refl _, CoC.refl _, cci (by rw [bOr]; rfl), trivial⟩) rfl (gtt r8) ?_
      refine rc rfl rfl rfl rfl rfl rfl good99 (cCont n l (mixZ (l.getD c default) (l.getD d default) ((m.getD k default).lhs ||| (m.getD k default).rhs))) (CoL.refl _) rfl (gtt r8) ?_; refine qy ?_ (hg := (gtt r8))
      refine qy ?_; refine rg_nil ?_; refine ⟨by kernel_rfl, ?_⟩; refine hw_cond _ rfl (fun r9 => ?_) (fun r9 => ?_)
      ·
       have h9 := r9
       have h9 := bif_t r8 h9
       have h9 := not_t h9
       refine hw_seq ?_; refine gy ?_; (iterate 4 refine qy ?_); refine s9 ?_; refine qy ?_; refine rg_nil ?_; refine hw_ret ?_; refine ⟨.inr rfl, ?_⟩
       have he := nextE_m hno (firstF_some (P := fun i a b => stepM l (m.getD i default) a b) (i := k) (a := c) (b := d) (by omega) (by omega) (by omega) (stepM_t (by assumption) (by assumption)) hK hC hD)
       exact f9 rfl rfl (by rw [he]; exact CoL.refl _)
      ·
       have h9 := r9
       have h9 := bif_t r8 h9
       have h9 := not_f h9
       refine hw_skip ?_; refine gy ?_; (iterate 2 refine qy ?_); refine rg_nil ?_; refine ⟨d + 1, ?_, ?_, ?_⟩
       · exact ⟨by show d + 1 ≤ _; omega, all_succ hD (by first | exact stepM_f1 (by assumption) | exact stepM_f2 (by assumption))⟩
       · first | omega | (dsimp only; omega)
       · exact ⟨⟨zy, c9, c9, c9, c9, c9, c9, c9, c9, c9, c9, c9, trivial⟩, ⟨u9, u9, u9, trivial⟩⟩
     ·
      have h8 := r8
      (iterate 19 refine k9 (gft r8) ?_); refine rq rfl rfl rfl rfl rfl ?_ (hp := r8); refine rg_nil ?_; refine ⟨by kernel_rfl, ?_⟩; refine hw_cond _ rfl (fun e => by cases e) (fun _ => ?_); refine hw_skip ?_; refine gy ?_
      (iterate 2 refine qy ?_); refine rg_nil ?_; refine ⟨d + 1, ?_, ?_, ?_⟩
      · exact ⟨by show d + 1 ≤ _; omega, all_succ hD (by first | exact stepM_f1 (by assumption) | exact stepM_f2 (by assumption))⟩
      · first | omega | (dsimp only; omega)
      · exact ⟨⟨zy, c9, c9, c9, c9, c9, c9, c9, c9, c9, c9, c9, trivial⟩, ⟨u9, u9, u9, trivial⟩⟩
    ·
     have h7 := of_decide_eq_false r7
     try simp only [ty] at h7
     refine hw_exit ?_; refine gy ?_; (iterate 2 refine qy ?_); refine rg_nil ?_; refine ⟨c + 1, ?_, ?_, ?_⟩
     · exact ⟨by show c + 1 ≤ _; omega, all_succ hC (fun b' hb' => hD b' (by omega))⟩
     · first | omega | (dsimp only; omega)
     · exact ⟨⟨zy, c9, c9, c9, c9, c9, c9, c9, c9, trivial⟩, ⟨u9, u9, u9, trivial⟩⟩
   ·
    have h6 := of_decide_eq_false r6
    try simp only [ty] at h6
    refine hw_exit ?_; refine gy ?_; (iterate 2 refine qy ?_); refine rg_nil ?_; refine ⟨k + 1, ?_, ?_, ?_⟩
    · exact ⟨by show k + 1 ≤ _; omega, all_succ hK (fun a' ha' => hC a' (by omega))⟩
    · first | omega | (dsimp only; omega)
    · exact ⟨⟨zy, c9, c9, c9, c9, trivial⟩, ⟨u9, u9, trivial⟩⟩
  ·
   have h5 := of_decide_eq_false r5
   try simp only [ty] at h5
   refine hw_exit ?_; refine hw_seq ?_; refine gy ?_; refine qy ?_; refine s9 ?_; refine qy ?_; refine rg_nil ?_; refine hw_ret ?_; refine ⟨.inr rfl, ?_⟩
   have he := nextE_n hno (firstF_none (P := fun i a b => stepM l (m.getD i default) a b) (I := m.length) (L := l.length) fun j hj => hK j (by omega))
   exact f9 rfl rfl (by rw [he]; exact CoL.refl _)
end Go.Hx
end
section
namespace Go.Hx
def stV (n : Int) (i : Nat) (p : AS) (c : Nat) : Int := if hasI p (c : Int) = true then (c : Int) else n + (i : Int) * n + (c : Int)
def stT (n : Int) (i : Nat) (p : AS) (k : Nat) : Rw := (List.range n.toNat).map fun c => if c < k then stV n i p c else 0
def stR (n : Int) (i : Nat) (p : AS) : Rw := (List.range n.toNat).map fun c => stV n i p c
def stRows (n : Int) (ps : List AS) : List Rw := (List.range ps.length).map fun i => stR n i (ps.getD i default)
theorem stR_len (n : Int) (i : Nat) (p : AS) : (stR n i p).length = n.toNat := by unfold stR; simp
theorem stRows_len (n : Int) (ps : List AS) : (stRows n ps).length = ps.length := by unfold stRows; simp
theorem stRows_at {n : Int} {ps : List AS} {i : Nat} (h : i < ps.length) : (stRows n ps).getD i default = stR n i (ps.getD i default) := by
 unfold stRows
 rw [List.getD_eq_getElem?_getD, List.getElem?_map, List.getElem?_range h]
 rfl
theorem stT_end (n : Int) (i : Nat) (p : AS) {k : Nat} (h : n.toNat ≤ k) : stT n i p k = stR n i p := by
 unfold stT stR
 refine List.map_congr_left fun c hc => ?_
 have := List.mem_range.1 hc
 rw [if_pos (by omega)]
theorem stT_at {n : Int} {i : Nat} {p : AS} {k c : Nat} (h : c < n.toNat) : (stT n i p k).getD c default = if c < k then stV n i p c else 0 := by
 unfold stT
 rw [List.getD_eq_getElem?_getD, List.getElem?_map, List.getElem?_range h]
 rfl
theorem stT_zero {n : Int} {i : Nat} {p : AS} {N : Nat} {f : Nat → Nat → PV} (hN : N = n.toNat) (hf : ∀ a, f a 0 = .raw (.int .i64 0)) : CoO (.arr true 1 3 N f) (.arr true 1 3 N (lf zC (stT n i p 0))) :=
 ⟨fun h => h, rfl, rfl, rfl, fun a j ha hj => by
  obtain rfl : j = 0 := by omega
  refine CoP.of_eq ?_
  rw [hf]
  show _ = PV.raw (.int .i64 ((stT n i p 0).getD a default))
  rw [stT_at (by omega), if_neg (by omega)]⟩
theorem stT_next {n : Int} {i : Nat} {p : AS} {k : Nat} : ∀ c, c < n.toNat → (stT n i p (k + 1)).getD c default = if c = k then stV n i p k else (stT n i p k).getD c default := fun c hc => by
 rw [stT_at hc, stT_at hc]
 by_cases h : c = k
 · rw [if_pos h, if_pos (by omega), h]
 · rw [if_neg h]
   by_cases h2 : c < k
   · rw [if_pos h2, if_pos (by omega)]
   · rw [if_neg h2, if_neg (by omega)]
theorem co_st2 {n : Int} {i : Nat} {p : AS} {k a b N : Nat} {x : Int} (h : hasI p (k : Int) = true) (hN : N = n.toNat) (ha : a = k) (hb : b = k) :
 CoO (.arr true 1 3 N (setEl (setEl (lf zC (stT n i p k)) a 0 [.raw (.int .i64 x)]) b 0 [.raw (.int .i64 (k : Int))])) (.arr true 1 3 N (lf zC (stT n i p (k + 1)))) := by
 subst ha hb
 refine ⟨fun h => h, rfl, rfl, rfl, fun c j hc hj => CoP.of_eq ?_⟩
 obtain rfl : j = 0 := by omega
 show _ = PV.raw (.int .i64 ((stT n i p (b + 1)).getD c default))
 rw [stT_next c (by omega)]
 unfold setEl
 by_cases e : c = b
 · rw [if_pos ⟨e, by omega, by simp⟩, if_pos e]
   unfold stV
   rw [if_pos h]
   rfl
 · rw [if_neg (fun x => e x.1), if_neg (fun x => e x.1), if_neg e]
   rfl
theorem co_st1 {n : Int} {i : Nat} {p : AS} {k a N : Nat} (h : ¬ hasI p (k : Int) = true) (hN : N = n.toNat) (ha : a = k) :
 CoO (.arr true 1 3 N (setEl (lf zC (stT n i p k)) a 0 [.raw (.int .i64 (n + (i : Int) * n + (k : Int)))])) (.arr true 1 3 N (lf zC (stT n i p (k + 1)))) := by
 subst ha
 refine ⟨fun h => h, rfl, rfl, rfl, fun c j hc hj => CoP.of_eq ?_⟩
 obtain rfl : j = 0 := by omega
 show _ = PV.raw (.int .i64 ((stT n i p (a + 1)).getD c default))
 rw [stT_next c (by omega)]
 unfold setEl
 by_cases e : c = a
 · rw [if_pos ⟨e, by omega, by simp⟩, if_pos e]
   unfold stV
   rw [if_neg h]
   rfl
 · rw [if_neg (fun x => e x.1), if_neg e]
   rfl
theorem shr_p {s : AS} {n : Int} : (asI s).fdiv (2 ^ (min n.toNat 32)) = 0 ↔ s >>> n.toNat = 0 := by
 rw [bShr, show (0 : Int) = asI 0 from rfl, asI_inj]
theorem mulB {n : Int} {i : Nat} (h0 : 0 ≤ n) (h1 : n ≤ 16) (hi : i ≤ 64) : 0 ≤ (i : Int) * n ∧ (i : Int) * n ≤ 1024 := by
 refine ⟨Int.mul_nonneg (by omega) h0, ?_⟩
 have h2 : (i : Int) * n ≤ (i : Int) * 16 := Int.mul_le_mul_of_nonneg_left h1 (by omega)
 omega
def startE (n : Int) (ps : List AS) : Int × List Rw × Int :=
 if n < 0 ∨ 16 < n then (0, [], 7) else if 64 < ps.length then (0, [], 3) else if ps.all (fun p => decide (p >>> n.toNat = 0)) = true then (n, canon (stRows n ps), 0) else (0, [], 1)
theorem startE_0 {n : Int} {ps : List AS} (h : n < 0 ∨ 16 < n) : startE n ps = (0, [], 7) := if_pos h
theorem startE_1 {n : Int} {ps : List AS} (h : ¬ (n < 0 ∨ 16 < n)) (h2 : 64 < ps.length) : startE n ps = (0, [], 3) := by unfold startE; rw [if_neg h, if_pos h2]
theorem startE_2 {n : Int} {ps : List AS} {i : Nat} (h : ¬ (n < 0 ∨ 16 < n)) (h2 : ¬ 64 < ps.length) (hi : i < ps.length) (h3 : ¬ (ps.getD i default) >>> n.toNat = 0) : startE n ps = (0, [], 1) := by
 unfold startE
 rw [if_neg h, if_neg h2, if_neg (fun e => absurd (all_f (l := ps) (p := fun p : AS => decide (p >>> n.toNat = 0)) hi (decide_eq_false h3)) (by rw [e]; decide))]
theorem startE_3 {n : Int} {ps : List AS} (h : ¬ (n < 0 ∨ 16 < n)) (h2 : ¬ 64 < ps.length) (h3 : ∀ j, j < ps.length → (ps.getD j default) >>> n.toNat = 0) : startE n ps = (n, canon (stRows n ps), 0) := by
 unfold startE
 rw [if_neg h, if_neg h2, if_pos (all_t (l := ps) (p := fun p : AS => decide (p >>> n.toNat = 0)) fun j hj => decide_eq_true (h3 j hj))]
theorem co_strow {n : Int} {ps : List AS} {i k : Nat} (hi : i < ps.length) (hk : n.toNat ≤ k) : CoP (.sl n.toNat 1 false (lf zC (stT n i (ps.getD i default) k))) (lf rC (stRows n ps) i 0) := by
 show CoP _ (zl ((stRows n ps).getD i default))
 rw [stRows_at hi, stT_end n i _ hk]
 exact CoP.sl (stR_len _ _ _) (.inl rfl) (fun h => h) fun a j ha hj => CoP.refl _
end Go.Hx
end
section
namespace Go.Hx
open Go.Proofs
set_option maxRecDepth 100000
theorem good148 : goodFn Tryz.prog 148 := ⟨Tryz.f148, Tryz.func148, by kernel_rfl, by kernel_rfl⟩
theorem cStart (n : Int) (ps : List AS) : HPure Tryz.prog 148 [pI n, pP (asl ps)] (prOf [pT (startE n ps).1 (startE n ps).2.1, pI (startE n ps).2.2]) := by
 refine hpure_of (nt := 73) Tryzok Tryz.func148 rfl rfl l9 ?_; refine hw_seq ?_; refine gy ?_; refine m9 0 ?_; refine qy ?_; refine rg_nil ?_; refine hw_seq ?_; refine hw_block ?_; refine hw_seq ?_; refine gy ?_
 (iterate 3 refine qy ?_); refine rsplit rfl rfl (fun r0 => ?_) (fun r0 => ?_)
 ·
  have h0 := of_decide_eq_true r0
  try simp only [ty] at h0
  (iterate 2 refine k9 (gtf r0) ?_); refine rq rfl rfl rfl rfl rfl ?_ (hp := r0); refine qy ?_; refine rg_nil ?_; refine hw_cond _ rfl (fun _ => ?_) (fun e => by cases e); refine hw_seq ?_; refine gy ?_; refine qy ?_; refine s9 ?_
  refine qy ?_; refine rg_nil ?_; refine hw_ret ?_; refine ⟨.inr rfl, ?_⟩
  have he := startE_0 (n := n) (ps := ps) (by omega)
  exact f9 rfl rfl (by rw [he]; exact ⟨CoC.agg ⟨CoP.refl _, co_nilZ, trivial⟩, CoC.refl _, trivial⟩)
 ·
  have h0 := of_decide_eq_false r0
  try simp only [ty] at h0
  (iterate 2 refine qy ?_ (hg := (gff r0))); (iterate 2 refine qy ?_); refine rg_nil ?_; refine hw_cond _ rfl (fun r1 => ?_) (fun r1 => ?_)
  ·
   have h1 := r1
   have h1 := bif_f r0 h1
   have h1 := of_decide_eq_true h1
   try simp only [ty] at h1
   refine hw_seq ?_; refine gy ?_; refine qy ?_; refine s9 ?_; refine qy ?_; refine rg_nil ?_; refine hw_ret ?_; refine ⟨.inr rfl, ?_⟩
   have he := startE_0 (n := n) (ps := ps) (by omega)
   exact f9 rfl rfl (by rw [he]; exact ⟨CoC.agg ⟨CoP.refl _, co_nilZ, trivial⟩, CoC.refl _, trivial⟩)
  ·
   have h1 := r1
   have h1 := bif_f r0 h1
   have h1 := of_decide_eq_false h1
   try simp only [ty] at h1
   refine hw_seq ?_; refine gy ?_; (iterate 4 refine qy ?_); refine rg_nil ?_; refine hw_cond _ rfl (fun r2 => ?_) (fun r2 => ?_)
   ·
    have h2 := of_decide_eq_true r2
    try simp only [ty] at h2
    refine hw_seq ?_; refine gy ?_; refine qy ?_; refine s9 ?_; refine qy ?_; refine rg_nil ?_; refine hw_ret ?_; refine ⟨.inr rfl, ?_⟩
    have he := startE_1 (n := n) (ps := ps) (by omega) (by omega)
    exact f9 rfl rfl (by rw [he]; exact ⟨CoC.agg ⟨CoP.refl _, co_nilZ, trivial⟩, CoC.refl _, trivial⟩)
   ·
    have h2 := of_decide_eq_false r2
    try simp only [ty] at h2
    refine hw_skip ?_; refine hw_seq ?_; refine gy ?_; (iterate 2 refine qy ?_); refine m9 1 ?_; refine s9 ?_; refine rg_nil ?_
    refine hw_adopt_cell 1 1 900 true 1 121 (lf rC (stRows n ps)) (by decide) rfl rfl (CoP.sl rfl (.inr rfl) (fun h => h) (fun i j hi _ => absurd hi (Nat.not_lt_zero i))) (.inr rfl) rfl rfl ?_; (iterate 2 refine hw_seq ?_)
    refine gy ?_; (iterate 3 refine qy ?_); refine rg_nil ?_; refine hw_block ?_
    refine hw_loopK (ι := Nat) ⟨[(0, some _), (4, some _), (6, some _), (26, some _), (27, some _)], [(0, some _)]⟩ ⟨⟨c9, c9, c9, c9, c9, trivial⟩, ⟨u9, trivial⟩⟩ (fun i => ⟨[(28, some (vI i))], [(1, some (.box [.p (.raw (.int .i64 n)), .ref 900 i])), (900, some (.arr true 1 121 i (lf rC (stRows n ps))))]⟩) (fun i => i ≤ ps.length ∧ ∀ j, j < i → (ps.getD j default) >>> n.toNat = 0) (fun i => ps.length - i) (0) (⟨Nat.zero_le _, all_zero⟩) ⟨⟨zy, trivial⟩, ⟨u9, u9, trivial⟩⟩ ?_
    rintro i ⟨hi, hI⟩
    refine hw_seq ?_; refine gy ?_; refine qy ?_; refine rg_nil ?_; refine hw_seq ?_; refine hw_cond _ rfl (fun r3 => ?_) (fun r3 => ?_)
    ·
     have h3 := of_decide_eq_true r3
     try simp only [ty] at h3
     have hin := mulB (n := n) (i := i) (by omega) (by omega) (by omega)
     refine hw_skip ?_; refine hw_seq ?_; refine hw_block ?_; refine hw_seq ?_; refine gy ?_; (iterate 5 refine qy ?_); refine rg_nil ?_; (iterate 2 refine hw_seq ?_); refine gy ?_; (iterate 4 refine qy ?_); refine rg_nil ?_
     refine hw_cond _ rfl (fun r4 => ?_) (fun r4 => ?_)
     ·
      have h4 := r4
      have h4 := of_decide_eq_false (not_t h4)
      try simp only [ty] at h4
      refine hw_seq ?_; refine gy ?_; refine qy ?_; refine s9 ?_; refine qy ?_; refine rg_nil ?_; refine hw_ret ?_; refine ⟨.inr rfl, ?_⟩
      have he := startE_2 (n := n) (ps := ps) (i := i) (by omega) (by omega) (by omega) (fun e => absurd (shr_p.2 e) (by assumption))
      exact f9 rfl rfl (by rw [he]; exact ⟨CoC.agg ⟨CoP.refl _, co_nilZ, trivial⟩, CoC.refl _, trivial⟩)
     ·
      have h4 := r4
      have h4 := of_decide_eq_true (not_f h4)
      try simp only [ty] at h4
      refine hw_skip ?_; refine hw_seq ?_; refine gy ?_; refine qy ?_; refine m9 2 ?_; refine qy ?_; refine rg_nil ?_; (iterate 2 refine hw_seq ?_); refine gy ?_; (iterate 2 refine qy ?_); refine rg_nil ?_; refine hw_block ?_
      refine hw_loopK (ι := Nat) ⟨[(0, some _), (4, some _), (6, some _), (7, some _), (8, some _), (9, some _), (26, some _), (27, some _), (28, some _), (40, some _)], [(1, some _), (900, some _), (0, some _)]⟩ ⟨⟨c9, c9, c9, c9, c9, c9, c9, c9, c9, c9, trivial⟩, ⟨u9, u9, u9, trivial⟩⟩ (fun k => ⟨[(41, some (vI k))], [(2, some (.arr true 1 3 n.toNat (lf zC (stT n i (ps.getD i default) k))))]⟩) (fun k => k ≤ n.toNat) (fun k => n.toNat - k) (0) (Nat.zero_le _) ⟨⟨zy, trivial⟩, ⟨⟨_, rfl, (stT_zero rfl (fun _ => rfl))⟩, trivial⟩⟩ ?_
      rintro k hk
      refine hw_seq ?_; refine gy ?_; refine qy ?_; refine rg_nil ?_; refine hw_seq ?_; refine hw_cond _ rfl (fun r5 => ?_) (fun r5 => ?_)
      ·
       have h5 := of_decide_eq_true r5
       try simp only [ty] at h5
       refine hw_skip ?_; refine hw_seq ?_; refine hw_block ?_; refine hw_seq ?_; refine gy ?_; (iterate 2 refine qy ?_); refine rg_nil ?_; refine hw_seq ?_; refine gy ?_; (iterate 10 refine qy ?_); refine s9 ?_
       refine rg_nil ?_; refine hw_seq ?_; refine gy ?_; (iterate 5 refine qy ?_); refine rg_nil ?_; refine hw_cond _ rfl (fun r6 => ?_) (fun r6 => ?_)
       ·
        have h6 := of_decide_eq_true r6
        try simp only [ty] at h6
        refine gy ?_; (iterate 4 refine qy ?_); refine s9 ?_; refine rg_nil ?_; refine gy ?_; (iterate 2 refine qy ?_); refine rg_nil ?_; refine ⟨k + 1, ?_, ?_, ?_⟩
        · show k + 1 ≤ _; omega
        · first | omega | (dsimp only; omega)
        · exact ⟨⟨zy, c9, c9, c9, c9, c9, c9, c9, c9, c9, c9, trivial⟩, ⟨⟨_, rfl, (by first | exact co_st2 ((has_n (by omega)).1 (by assumption)) rfl (by omega) (by omega) | exact co_st1 (fun e => absurd ((has_n (by omega)).2 e) (by assumption)) rfl (by omega))⟩, u9, u9, u9, trivial⟩⟩
       ·
        have h6 := of_decide_eq_false r6
        try simp only [ty] at h6
        refine hw_skip ?_; refine gy ?_; (iterate 2 refine qy ?_); refine rg_nil ?_; refine ⟨k + 1, ?_, ?_, ?_⟩
        · show k + 1 ≤ _; omega
        · first | omega | (dsimp only; omega)
        · exact ⟨⟨zy, c9, c9, c9, c9, c9, c9, c9, c9, c9, c9, trivial⟩, ⟨⟨_, rfl, (by first | exact co_st2 ((has_n (by omega)).1 (by assumption)) rfl (by omega) (by omega) | exact co_st1 (fun e => absurd ((has_n (by omega)).2 e) (by assumption)) rfl (by omega))⟩, u9, u9, u9, trivial⟩⟩
      ·
       have h5 := of_decide_eq_false r5
       try simp only [ty] at h5
       refine hw_exit ?_; refine hw_freeze 9 rfl rfl rfl ?_; refine gy ?_; (iterate 3 refine qy ?_); refine m9 3 ?_; refine ra 4 true rfl rfl rfl rfl rfl rfl ?_; refine qy ?_; refine s9 ?_; refine rg_nil ?_; refine gy ?_
       (iterate 2 refine qy ?_); refine rg_nil ?_; refine ⟨i + 1, ?_, ?_, ?_⟩
       · exact ⟨by show i + 1 ≤ _; omega, all_succ hI (shr_p.1 (by assumption))⟩
       · first | omega | (dsimp only; omega)
       · exact ⟨⟨zy, c9, c9, c9, c9, c9, trivial⟩, ⟨u9, ⟨_, rfl, (co_push (fun h => h) (fun j hj => by obtain rfl : j = 0 := (by omega); exact co_strow (by omega) (by omega)))⟩, u9, trivial⟩⟩
    ·
     have h3 := of_decide_eq_false r3
     try simp only [ty] at h3
     obtain rfl : i = ps.length := by omega
     refine hw_exit ?_; refine hw_seq ?_; refine gy ?_; refine qy ?_
     refine rg_fcall rfl rfl rfl rfl rfl rfl good179 ((cSorted n (stRows n ps) (by rw [stRows_len]; omega))) (⟨⟨CoP.refl _, congrArg (HV.ref 900) (stRows_len _ _).symm, trivial⟩, trivial⟩) ⟨⟨_, rfl, arr_len rfl (stRows_len _ _).symm⟩, trivial⟩ rfl rfl ?_
     refine s9 ?_; refine qy ?_; refine rg_nil ?_; refine hw_ret ?_; refine ⟨.inr rfl, ?_⟩
     have he := startE_3 (n := n) (ps := ps) (by omega) (by omega) (fun j hj => hI j (by omega))
     exact f9 rfl rfl (by rw [he]; exact CoL.refl _)
end Go.Hx
end
section
namespace Go.Hx
def firstZ (n : Int) : Rw := (List.range n.toNat).map fun (i : Nat) => (i : Int)
theorem firstZ_len (n : Int) : (firstZ n).length = n.toNat := by unfold firstZ; simp
theorem stR_at {n : Int} {i : Nat} {p : AS} {k : Nat} (h : k < n.toNat) : (stR n i p).getD k default = stV n i p k := by
 unfold stR
 rw [List.getD_eq_getElem?_getD, List.getElem?_map, List.getElem?_range h]
 rfl
theorem p_shr {s : AS} {n : Int} (h0 : 0 ≤ n) (h1 : n ≤ 16) : sub s (fullI n) ↔ s >>> n.toNat = 0 := by
 unfold fullI
 rw [Nat.min_eq_left (by omega)]
 exact within_iff (by omega)
def stepR (l : List Rw) (x : Fd) (a b : Nat) : Bool := agrZ (l.getD a default) (l.getD b default) x.lhs && !(l.any fun r => decide (r = mixZ (l.getD a default) (l.getD b default) x.rhs))
end Go.Hx
end
