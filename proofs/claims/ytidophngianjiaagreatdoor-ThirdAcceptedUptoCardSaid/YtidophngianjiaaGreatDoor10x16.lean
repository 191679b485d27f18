/- A part of the proof: V1 Cs4 V2 Cl1 V3 Cl2. -/
import Derived.Test.YtidophngianjiaaGreatDoor10x15
set_option linter.all false
section
namespace Go.Hx
open Go.Proofs
set_option maxRecDepth 100000
set_option maxHeartbeats 1000000
theorem u7 : goodFn Tryz.prog 81 := ⟨Tryz.f81, Tryz.func81, by kernel_rfl, by kernel_rfl⟩
theorem y3 (a b : AS) : ah Tryz.prog 81 [pA a, pA b] (ap [pB (decide (sub a b))]) := by
 refine ag (nt := 10) af Tryz.func81 rfl rfl l9 ?_; refine sx7 ?_; refine qy ?_; refine a6 ?_; refine sx7 ?_; (iterate 6 refine qy ?_); refine a6 ?_
 exact hx8 rfl rfl rfl (⟨ccb (decide_eq_decide.2 (by rw [o8, db]; exact avx.symm)), trivial⟩)
theorem mb : goodFn Tryz.prog 119 := ⟨Tryz.f119, Tryz.func119, by kernel_rfl, by kernel_rfl⟩
theorem ot (l : List Fd) (s0 : AS) : ah Tryz.prog 119 [pP (fdl l), pA s0] (ap [pA (clo l s0)]) := by
 refine ag (nt := 29) af Tryz.func119 rfl rfl l9 ?_; refine a7 ?_
 refine d1 0 rfl fun hlen => ?_
 refine gy ?_; refine qy ?_; refine a6 ?_; refine ae ?_
 refine ai (ι := AS) ⟨[(0, some _)], []⟩ ⟨⟨c9, trivial⟩, trivial⟩ (fun s => ⟨[(1, some (vA s))], []⟩) (fun s => clo l s = clo l s0) (fun s => 4294967296 - s.toNat) (s0) (rfl) ⟨⟨zy, trivial⟩, trivial⟩ ?_
 rintro s hs
 refine ae ?_; refine sx7 ?_; (iterate 2 refine qy ?_); refine a6 ?_; refine a7 ?_; refine sx7 ?_; (iterate 3 refine qy ?_); refine a6 ?_; refine ae ?_
 refine ai (ι := Nat) ⟨[(0, some _), (5, some _), (9, some _), (10, some _)], []⟩ ⟨⟨c9, c9, c9, c9, trivial⟩, trivial⟩ (fun i => ⟨[(11, some (vI i)), (1, some (vA (cw (l.take i) s)))], []⟩) (fun i => i ≤ l.length) (fun i => l.length - i) (0) (Nat.zero_le _) ⟨⟨zy, zy, trivial⟩, trivial⟩ ?_
 rintro i hi
 refine sx7 ?_; refine qy ?_; refine a6 ?_; refine a7 ?_; refine a8 _ rfl (fun r0 => ?_) (fun r0 => ?_)
 ·
  have h0 := of_decide_eq_true r0
  try simp only [ty] at h0
  refine aa ?_; refine a7 ?_; refine ae ?_; refine sx7 ?_; (iterate 2 refine qy ?_); refine m9 0 ?_; refine s9 ?_; refine a6 ?_; refine sx7 ?_; (iterate 5 refine qy ?_); refine a6 ?_
  refine a8 _ rfl (fun r1 => ?_) (fun r1 => ?_)
  ·
   have h1 := of_decide_eq_true r1
   try simp only [ty] at h1
   refine gy ?_; (iterate 5 refine qy ?_); refine a6 ?_; refine gy ?_; (iterate 2 refine qy ?_); refine a6 ?_; refine ⟨i + 1, ?_, ?_, ?_⟩
   · show i + 1 ≤ _; omega
   · first | omega | (dsimp only; omega)
   · exact ⟨⟨zy, ⟨_, rfl, (by rw [a4k (by omega)]; first | (rw [azo (by assumption)]; exact CoR.refl _) | (simp only [Int.toNat_natCast]; rw [b0l (by assumption)]; exact CoR.refl _))⟩, c9, c9, c9, c9, trivial⟩, trivial⟩
  ·
   have h1 := of_decide_eq_false r1
   try simp only [ty] at h1
   refine aa ?_; refine gy ?_; (iterate 2 refine qy ?_); refine a6 ?_; refine ⟨i + 1, ?_, ?_, ?_⟩
   · show i + 1 ≤ _; omega
   · first | omega | (dsimp only; omega)
   · exact ⟨⟨zy, ⟨_, rfl, (by rw [a4k (by omega)]; first | (rw [azo (by assumption)]; exact CoR.refl _) | (simp only [Int.toNat_natCast]; rw [b0l (by assumption)]; exact CoR.refl _))⟩, c9, c9, c9, c9, trivial⟩, trivial⟩
 ·
  have h0 := of_decide_eq_false r0
  try simp only [ty] at h0
  obtain rfl : i = l.length := by omega
  refine ak ?_; refine sx7 ?_; (iterate 3 refine qy ?_); refine a6 ?_; refine a8 _ rfl (fun r2 => ?_) (fun r2 => ?_)
  ·
   have h2 := of_decide_eq_true r2
   try simp only [ty] at h2
   refine sx7 ?_; (iterate 2 refine qy ?_); refine a6 ?_; refine am ?_; refine ⟨.inr rfl, ?_⟩
   have e2 : cw l s = s := by
    have := db.1 (by assumption)
    rwa [List.take_length] at this
   exact f9 rfl rfl (⟨cci (by rw [List.take_length, e2, ← hs, a85 e2]), trivial⟩)
  ·
   have h2 := of_decide_eq_false r2
   try simp only [ty] at h2
   refine aa ?_; refine ⟨cw l s, ?_, ?_, ?_⟩
   · show clo l (cw l s) = clo l s0
     rw [ac6]; exact hs
   · have hne : ¬ cw l s = s := fun e => absurd (congrArg asI e) (by rw [List.take_length] at *; assumption)
     have := qf (kd (l := l) (s := s)) (fun e => hne e.symm)
     have := (cw l s).isLt
     show 4294967296 - (cw l s).toNat < 4294967296 - s.toNat
     omega
   · exact ⟨⟨⟨_, rfl, (by rw [List.take_length]; exact CoR.refl _)⟩, c9, trivial⟩, trivial⟩
theorem a1e : goodFn Tryz.prog 128 := ⟨Tryz.f128, Tryz.func128, by kernel_rfl, by kernel_rfl⟩
theorem a0v (l : List Fd) (s0 : AS) : ah Tryz.prog 128 [pP (fdl l), pA s0] (ap [pA (clo l s0)]) := by
 refine ag (nt := 32) af Tryz.func128 rfl rfl l9 ?_; refine a7 ?_
 refine d1 0 rfl fun hlen => ?_
 refine gy ?_; refine qy ?_; refine a6 ?_; refine ae ?_
 refine ai (ι := AS) ⟨[(0, some _)], []⟩ ⟨⟨c9, trivial⟩, trivial⟩ (fun s => ⟨[(1, some (vA s))], []⟩) (fun s => clo l s = clo l s0) (fun s => 4294967296 - s.toNat) (s0) (rfl) ⟨⟨zy, trivial⟩, trivial⟩ ?_
 rintro s hs
 refine ae ?_; refine sx7 ?_; (iterate 2 refine qy ?_); refine a6 ?_; refine a7 ?_; refine sx7 ?_; refine qy ?_; refine a6 ?_; refine ae ?_
 refine ai (ι := Nat) ⟨[(0, some _), (5, some _)], []⟩ ⟨⟨c9, c9, trivial⟩, trivial⟩ (fun i => ⟨[(6, some (vI i)), (1, some (vA (cw (l.take i) s)))], []⟩) (fun i => i ≤ l.length) (fun i => l.length - i) (0) (Nat.zero_le _) ⟨⟨zy, zy, trivial⟩, trivial⟩ ?_
 rintro i hi
 refine a7 ?_; refine sx7 ?_; (iterate 4 refine qy ?_); refine a6 ?_; refine a8 _ rfl (fun r0 => ?_) (fun r0 => ?_)
 ·
  have h0 := of_decide_eq_true r0
  try simp only [ty] at h0
  refine aa ?_; refine a7 ?_; refine ae ?_; refine sx7 ?_; (iterate 6 refine qy ?_); refine rc rfl rfl rfl rfl rfl rfl u7 (y3 (l.getD i default).lhs (cw (l.take i) s)) (CoL.refl _) rfl rfl ?_
  refine a6 ?_; refine a8 _ rfl (fun r1 => ?_) (fun r1 => ?_)
  ·
   have h1 := r1
   refine gy ?_; (iterate 8 refine qy ?_); refine a6 ?_; refine gy ?_; (iterate 3 refine qy ?_); refine a6 ?_; refine ⟨i + 1, ?_, ?_, ?_⟩
   · show i + 1 ≤ _; omega
   · first | omega | (dsimp only; omega)
   · exact ⟨⟨zy, ⟨_, rfl, (by rw [a4k (by omega)]; first | (rw [cl_f' (by assumption)]; exact CoR.refl _) | (simp only [Int.toNat_natCast]; rw [cl_t' (by assumption)]; exact CoR.refl _))⟩, c9, c9, trivial⟩, trivial⟩
  ·
   have h1 := r1
   refine aa ?_; refine gy ?_; (iterate 3 refine qy ?_); refine a6 ?_; refine ⟨i + 1, ?_, ?_, ?_⟩
   · show i + 1 ≤ _; omega
   · first | omega | (dsimp only; omega)
   · exact ⟨⟨zy, ⟨_, rfl, (by rw [a4k (by omega)]; first | (rw [cl_f' (by assumption)]; exact CoR.refl _) | (simp only [Int.toNat_natCast]; rw [cl_t' (by assumption)]; exact CoR.refl _))⟩, c9, c9, trivial⟩, trivial⟩
 ·
  have h0 := of_decide_eq_false r0
  try simp only [ty] at h0
  obtain rfl : i = l.length := by omega
  refine ak ?_; refine sx7 ?_; (iterate 3 refine qy ?_); refine a6 ?_; refine a8 _ rfl (fun r2 => ?_) (fun r2 => ?_)
  ·
   have h2 := of_decide_eq_true r2
   try simp only [ty] at h2
   refine sx7 ?_; (iterate 2 refine qy ?_); refine a6 ?_; refine am ?_; refine ⟨.inr rfl, ?_⟩
   have e2 : cw l s = s := by
    have := db.1 (by assumption)
    rwa [List.take_length] at this
   exact f9 rfl rfl (⟨cci (by rw [List.take_length, e2, ← hs, a85 e2]), trivial⟩)
  ·
   have h2 := of_decide_eq_false r2
   try simp only [ty] at h2
   refine aa ?_; refine ⟨cw l s, ?_, ?_, ?_⟩
   · show clo l (cw l s) = clo l s0
     rw [ac6]; exact hs
   · have hne : ¬ cw l s = s := fun e => absurd (congrArg asI e) (by rw [List.take_length] at *; assumption)
     have := qf (kd (l := l) (s := s)) (fun e => hne e.symm)
     have := (cw l s).isLt
     show 4294967296 - (cw l s).toNat < 4294967296 - s.toNat
     omega
   · exact ⟨⟨⟨_, rfl, (by rw [List.take_length]; exact CoR.refl _)⟩, c9, trivial⟩, trivial⟩
theorem tj : goodFn Tryz.prog 82 := ⟨Tryz.f82, Tryz.func82, by kernel_rfl, by kernel_rfl⟩
theorem sx (n : Int) (l : List Fd) : ah Tryz.prog 82 [pI n, pP (fdl l)] (ap [pI (av n l)]) := by
 refine ag (nt := 31) af Tryz.func82 rfl rfl l9 ?_; refine a7 ?_
 refine d1 1 rfl fun hlen => ?_
 refine gy ?_; refine qy ?_; refine a6 ?_; refine a7 ?_; refine sx7 ?_; (iterate 3 refine qy ?_); refine bc rfl rfl (fun r0 => ?_) (fun r0 => ?_)
 ·
  have h0 := of_decide_eq_true r0
  try simp only [ty] at h0
  (iterate 2 refine k9 (gtf r0) ?_); refine rq rfl rfl rfl rfl rfl ?_ (hp := r0); refine a6 ?_; refine a8 _ rfl (fun _ => ?_) (fun e => by cases e); refine sx7 ?_; refine qy ?_; refine a6 ?_
  exact hx8 rfl rfl rfl (⟨cci (by rw [av, if_pos (by omega)]), trivial⟩)
 ·
  have h0 := of_decide_eq_false r0
  try simp only [ty] at h0
  (iterate 2 refine qy ?_ (hg := (gff r0))); refine qy ?_; refine a6 ?_; refine a8 _ rfl (fun r1 => ?_) (fun r1 => ?_)
  ·
   have h1 := r1
   have h1 := bn r0 h1
   have h1 := of_decide_eq_true h1
   try simp only [ty] at h1
   refine sx7 ?_; refine qy ?_; refine a6 ?_
   exact hx8 rfl rfl rfl (⟨cci (by rw [av, if_pos (by omega)]), trivial⟩)
  ·
   have h1 := r1
   have h1 := bn r0 h1
   have h1 := of_decide_eq_false h1
   try simp only [ty] at h1
   refine aa ?_; refine a7 ?_; refine sx7 ?_; (iterate 3 refine qy ?_); refine a6 ?_; refine a8 _ rfl (fun r2 => ?_) (fun r2 => ?_)
   ·
    have h2 := of_decide_eq_true r2
    try simp only [ty] at h2
    refine sx7 ?_; refine qy ?_; refine a6 ?_
    exact hx8 rfl rfl rfl (⟨cci (by rw [av, if_neg (by omega), if_pos (by omega)]), trivial⟩)
   ·
    have h2 := of_decide_eq_false r2
    try simp only [ty] at h2
    refine aa ?_; refine a7 ?_; refine sx7 ?_; (iterate 3 refine qy ?_); refine a6 ?_; refine ae ?_
    refine ai (ι := Nat) ⟨[(0, some _), (16, some _), (17, some _)], []⟩ ⟨⟨c9, c9, c9, trivial⟩, trivial⟩ (fun i => ⟨[(18, some (vI i))], []⟩) (fun i => i ≤ l.length ∧ ∀ j, j < i → inU n (l.getD j default) = true) (fun i => l.length - i) (0) (⟨Nat.zero_le _, fun j hj => absurd hj (Nat.not_lt_zero j)⟩) ⟨⟨zy, trivial⟩, trivial⟩ ?_
    rintro i ⟨hi, hI⟩
    refine sx7 ?_; refine qy ?_; refine a6 ?_; refine a7 ?_; refine a8 _ rfl (fun r3 => ?_) (fun r3 => ?_)
    ·
     have h3 := of_decide_eq_true r3
     try simp only [ty] at h3
     refine aa ?_; refine a7 ?_; refine ae ?_; refine sx7 ?_; (iterate 2 refine qy ?_); refine m9 0 ?_; refine s9 ?_; refine a6 ?_; refine sx7 ?_; (iterate 8 refine qy ?_); refine a6 ?_
     refine a8 _ rfl (fun r4 => ?_) (fun r4 => ?_)
     ·
      have h4 := r4
      have h4 := of_decide_eq_false (ax h4)
      try simp only [ty] at h4
      refine sx7 ?_; refine qy ?_; refine a6 ?_
      exact hx8 rfl rfl rfl (⟨cci (by rw [av, if_neg (by omega), if_neg (by omega), if_neg (fun e => absurd (a4d (l := l) (p := inU n) (i := i) (by omega) (by rw [Bool.eq_false_iff]; exact fun e => absurd (a20.2 e) (by assumption))) (by rw [e]; decide))]), trivial⟩)
     ·
      have h4 := r4
      have h4 := of_decide_eq_true (aw h4)
      try simp only [ty] at h4
      refine aa ?_; refine gy ?_; (iterate 2 refine qy ?_); refine a6 ?_; refine ⟨i + 1, ?_, ?_, ?_⟩
      · refine ⟨by omega, fun j hj => ?_⟩
        rcases Nat.lt_or_eq_of_le (Nat.le_of_lt_succ hj) with h | h
        · exact hI j h
        · subst h
          exact a20.1 (by assumption)
      · first | omega | (dsimp only; omega)
      · exact ⟨⟨zy, c9, c9, c9, trivial⟩, trivial⟩
    ·
     have h3 := of_decide_eq_false r3
     try simp only [ty] at h3
     obtain rfl : i = l.length := by omega
     refine ak ?_; refine sx7 ?_; refine qy ?_; refine a6 ?_
     exact hx8 rfl rfl rfl (⟨cci (by rw [av, if_neg (by omega), if_neg (by omega), if_pos (aa5 fun j hj => hI j hj)]), trivial⟩)
theorem zd : goodFn Tryz.prog 20 := ⟨Tryz.f20, Tryz.func20, by kernel_rfl, by kernel_rfl⟩
theorem a0s (n : Int) : ah Tryz.prog 20 [pI n] (ap [pA (aq n)]) := by
 refine ag (nt := 19) af Tryz.func20 rfl rfl l9 ?_; refine sx7 ?_; refine qy ?_; refine a6 ?_; refine sx7 ?_; refine qy ?_; refine a6 ?_; refine a7 ?_; refine sx7 ?_; refine qy ?_; refine a6 ?_
 refine ae ?_
 refine ai (ι := Nat) ⟨[(0, some _)], []⟩ ⟨⟨c9, trivial⟩, trivial⟩ (fun i => ⟨[(4, some (vI i)), (3, some (vA (j7 i)))], []⟩) (fun i => i ≤ min n.toNat 32) (fun i => min n.toNat 32 - i) (0) (Nat.zero_le _) ⟨⟨zy, zy, trivial⟩, trivial⟩ ?_
 rintro i hi
 refine a7 ?_; refine sx7 ?_; (iterate 4 refine qy ?_); refine bc rfl rfl (fun r0 => ?_) (fun r0 => ?_)
 ·
  have h0 := of_decide_eq_true r0
  try simp only [ty] at h0
  (iterate 2 refine qy ?_ (hg := (gtt r0))); refine qy ?_; refine a6 ?_; refine a8 _ rfl (fun r1 => ?_) (fun r1 => ?_)
  ·
   have h1 := r1
   have h1 := cj r0 h1
   have h1 := of_decide_eq_true h1
   try simp only [ty] at h1
   refine aa ?_; refine a7 ?_; refine ae ?_; refine gy ?_; (iterate 5 refine qy ?_); refine a6 ?_; refine gy ?_; (iterate 3 refine qy ?_); refine a6 ?_; refine ⟨i + 1, ?_, ?_, ?_⟩
   · show i + 1 ≤ _; omega
   · first | omega | (dsimp only; omega)
   · exact ⟨⟨zy, ⟨_, rfl, (by simp only [Int.toNat_natCast]; exact c8 (amu i))⟩, c9, trivial⟩, trivial⟩
  ·
   have h1 := r1
   have h1 := cj r0 h1
   have h1 := of_decide_eq_false h1
   try simp only [ty] at h1
   obtain rfl : i = min n.toNat 32 := by omega
   refine ak ?_; refine sx7 ?_; (iterate 2 refine qy ?_); refine a6 ?_
   exact hx8 rfl rfl rfl (CoL.refl _)
 ·
  have h0 := of_decide_eq_false r0
  try simp only [ty] at h0
  obtain rfl : i = min n.toNat 32 := by omega
  (iterate 2 refine k9 (gft r0) ?_); refine rq rfl rfl rfl rfl rfl ?_ (hp := r0); refine a6 ?_; refine a8 _ rfl (fun e => by cases e) (fun _ => ?_); refine ak ?_; refine sx7 ?_; (iterate 2 refine qy ?_)
  refine a6 ?_
  exact hx8 rfl rfl rfl (CoL.refl _)
end Go.Hx
end
section
namespace Go.Hx
theorem eg (i k : Nat) (hk : k < 32) : ((1 : AS) <<< i).getLsbD k = decide (k = i) := by
 rw [BitVec.getLsbD_shiftLeft]
 by_cases h : k < i
 · simp [h, hk]; omega
 · by_cases e : k = i
   · subst e; simp [hk]
   · have : 0 < k - i := by omega
     simp [hk, h, e, BitVec.getLsbD_one]
     omega
theorem jj : ∀ (n k : Nat), k < 32 → (j7 n).getLsbD k = decide (k < n)
 | 0, k, hk => by simp [j7]
 | n + 1, k, hk => by
  rw [a5i, BitVec.getLsbD_or, jj n k hk, eg n k hk]
  by_cases h : k < n
  · simp [h]; omega
  · by_cases e : k = n
    · simp [e]
    · simp [h, e]; omega
theorem axp {s : AS} {n : Nat} : s >>> n = 0 ↔ ∀ k, k < 32 → n ≤ k → s.getLsbD k = false := by
 constructor
 · intro h k hk hn
   have := congrArg (fun x : AS => x.getLsbD (k - n)) h
   simp only [BitVec.getLsbD_ushiftRight] at this
   rw [show n + (k - n) = k by omega] at this
   simpa using this
 · intro h
   apply BitVec.eq_of_getLsbD_eq
   intro i hi
   rw [BitVec.getLsbD_ushiftRight]
   by_cases hk : n + i < 32
   · rw [h (n + i) hk (by omega)]; simp
   · rw [BitVec.getLsbD_of_ge _ _ (by omega)]; simp
theorem rz {s : AS} {n : Nat} (hn : n ≤ 32) : sub s (j7 n) ↔ s >>> n = 0 := by
 rw [az, axp]
 constructor
 · intro h k hk hle
   rw [Bool.eq_false_iff]
   intro e
   have := h k hk e
   rw [jj n k hk, decide_eq_true_iff] at this
   omega
 · intro h k hk e
   rw [jj n k hk, decide_eq_true_iff]
   apply Nat.lt_of_not_le
   intro hle
   rw [h k hk hle] at e
   cases e
theorem l4 {n : Int} (hn : 0 ≤ n) (h16 : n ≤ 16) {f : Fd} : inU n f = true ↔ sub f.lhs (aq n) ∧ sub f.rhs (aq n) := by
 unfold inU aq
 rw [decide_eq_true_iff, Nat.min_eq_left (by omega), ← rz (by omega)]
 exact ⟨fun h => ⟨b6 nf h, b6 n9 h⟩, fun h => qg h.1 h.2⟩
abbrev Fd.pc (f : Fd) : PC := .agg [f.c 0, f.c 1]
def imp (l : List Fd) (f : Fd) : Bool := decide (sub f.rhs (clo l f.lhs))
end Go.Hx
end
section
namespace Go.Hx
open Go.Proofs
set_option maxRecDepth 100000
theorem an7 : goodFn Tryz.prog 40 := ⟨Tryz.f40, Tryz.func40, by kernel_rfl, by kernel_rfl⟩
theorem af0 (n : Int) (l : List Fd) : ah Tryz.prog 40 [pI n, pP (fdl l)] (ap [pI (av n l)]) := by
 refine ag (nt := 42) af Tryz.func40 rfl rfl l9 ?_; refine a7 ?_
 refine d1 1 rfl fun hlen => ?_
 refine gy ?_; refine qy ?_; refine a6 ?_; refine a7 ?_; refine sx7 ?_; (iterate 3 refine qy ?_); refine bc rfl rfl (fun r0 => ?_) (fun r0 => ?_)
 ·
  have h0 := of_decide_eq_true r0
  try simp only [ty] at h0
  (iterate 2 refine k9 (gtf r0) ?_); refine rq rfl rfl rfl rfl rfl ?_ (hp := r0); refine a6 ?_; refine a8 _ rfl (fun _ => ?_) (fun e => by cases e); refine sx7 ?_; refine qy ?_; refine a6 ?_
  exact hx8 rfl rfl rfl (⟨cci (by rw [av, if_pos (by omega)]), trivial⟩)
 ·
  have h0 := of_decide_eq_false r0
  try simp only [ty] at h0
  (iterate 2 refine qy ?_ (hg := (gff r0))); refine qy ?_; refine a6 ?_; refine a8 _ rfl (fun r1 => ?_) (fun r1 => ?_)
  ·
   have h1 := r1
   have h1 := bn r0 h1
   have h1 := of_decide_eq_true h1
   try simp only [ty] at h1
   refine sx7 ?_; refine qy ?_; refine a6 ?_
   exact hx8 rfl rfl rfl (⟨cci (by rw [av, if_pos (by omega)]), trivial⟩)
  ·
   have h1 := r1
   have h1 := bn r0 h1
   have h1 := of_decide_eq_false h1
   try simp only [ty] at h1
   refine aa ?_; refine a7 ?_; refine sx7 ?_; (iterate 3 refine qy ?_); refine a6 ?_; refine a8 _ rfl (fun r2 => ?_) (fun r2 => ?_)
   ·
    have h2 := of_decide_eq_true r2
    try simp only [ty] at h2
    refine sx7 ?_; refine qy ?_; refine a6 ?_
    exact hx8 rfl rfl rfl (⟨cci (by rw [av, if_neg (by omega), if_pos (by omega)]), trivial⟩)
   ·
    have h2 := of_decide_eq_false r2
    try simp only [ty] at h2
    refine aa ?_; refine sx7 ?_; refine qy ?_; refine rc rfl rfl rfl rfl rfl rfl zd (a0s n) (CoL.refl _) rfl rfl ?_; refine qy ?_; refine a6 ?_; refine a7 ?_; refine sx7 ?_; refine qy ?_; refine a6 ?_
    refine ae ?_
    refine ai (ι := Nat) ⟨[(1, some _), (5, some _)], []⟩ ⟨⟨c9, c9, trivial⟩, trivial⟩ (fun i => ⟨[(6, some (vI i))], []⟩) (fun i => i ≤ l.length ∧ ∀ j, j < i → inU n (l.getD j default) = true) (fun i => l.length - i) (0) (⟨Nat.zero_le _, fun j hj => absurd hj (Nat.not_lt_zero j)⟩) ⟨⟨zy, trivial⟩, trivial⟩ ?_
    rintro i ⟨hi, hI⟩
    refine a7 ?_; refine sx7 ?_; (iterate 4 refine qy ?_); refine a6 ?_; refine a8 _ rfl (fun r3 => ?_) (fun r3 => ?_)
    ·
     have h3 := of_decide_eq_true r3
     try simp only [ty] at h3
     refine aa ?_; refine a7 ?_; refine ae ?_; refine sx7 ?_; (iterate 6 refine qy ?_); refine rc rfl rfl rfl rfl rfl rfl u7 (y3 _ _) (CoL.refl _) rfl rfl ?_; (iterate 2 refine qy ?_)
     refine bc rfl rfl (fun r4 => ?_) (fun r4 => ?_)
     ·
      have h4 := r4
      have h4 := ax h4
      (iterate 8 refine k9 (gtf r4) ?_); refine rq rfl rfl rfl rfl rfl ?_ (hp := r4); refine a6 ?_; refine a8 _ rfl (fun _ => ?_) (fun e => by cases e); refine sx7 ?_; refine qy ?_; refine a6 ?_
      exact hx8 rfl rfl rfl (⟨cci (by rw [av, if_neg (by omega), if_neg (by omega), if_neg (fun e => absurd (a4d (l := l) (p := inU n) (i := i) (by omega) (by rw [Bool.eq_false_iff]; intro e2; rw [l4 (by omega) (by omega)] at e2; simp_all)) (by rw [e]; decide))]), trivial⟩)
     ·
      have h4 := r4
      have h4 := aw h4
      (iterate 6 refine qy ?_ (hg := (gff r4))); refine rc rfl rfl rfl rfl rfl rfl u7 (y3 _ _) (CoL.refl _) rfl (gff r4) ?_; refine qy ?_ (hg := (gff r4)); refine qy ?_; refine a6 ?_
      refine a8 _ rfl (fun r5 => ?_) (fun r5 => ?_)
      ·
       have h5 := r5
       have h5 := bn r4 h5
       have h5 := ax h5
       refine sx7 ?_; refine qy ?_; refine a6 ?_
       exact hx8 rfl rfl rfl (⟨cci (by rw [av, if_neg (by omega), if_neg (by omega), if_neg (fun e => absurd (a4d (l := l) (p := inU n) (i := i) (by omega) (by rw [Bool.eq_false_iff]; intro e2; rw [l4 (by omega) (by omega)] at e2; simp_all)) (by rw [e]; decide))]), trivial⟩)
      ·
       have h5 := r5
       have h5 := bn r4 h5
       have h5 := aw h5
       refine aa ?_; refine gy ?_; (iterate 3 refine qy ?_); refine a6 ?_; refine ⟨i + 1, ?_, ?_, ?_⟩
       · refine ⟨by omega, fun j hj => ?_⟩
         rcases Nat.lt_or_eq_of_le (Nat.le_of_lt_succ hj) with h | h
         · exact hI j h
         · subst h
           exact (l4 (by omega) (by omega)).2 (by simp_all)
       · first | omega | (dsimp only; omega)
       · exact ⟨⟨zy, c9, c9, trivial⟩, trivial⟩
    ·
     have h3 := of_decide_eq_false r3
     try simp only [ty] at h3
     obtain rfl : i = l.length := by omega
     refine ak ?_; refine sx7 ?_; refine qy ?_; refine a6 ?_
     exact hx8 rfl rfl rfl (⟨cci (by rw [av, if_neg (by omega), if_neg (by omega), if_pos (aa5 fun j hj => hI j hj)]), trivial⟩)
theorem ag7 : goodFn Tryz.prog 226 := ⟨Tryz.f226, Tryz.func226, by kernel_rfl, by kernel_rfl⟩
theorem b0e (l : List Fd) (x : Fd) : ah Tryz.prog 226 [pP (fdl l), x.pc] (ap [pB (imp l x)]) := by
 refine ag (nt := 13) af Tryz.func226 rfl rfl l9 ?_; refine sx7 ?_; refine m9 0 ?_; refine qy ?_; refine a6 ?_; refine a7 ?_; refine b7 (E := bm) af ar [0, 1, 2, 3, 4, 5, 6, 7, 8] ?_
 (iterate 5 refine qy ?_); refine rc rfl rfl rfl rfl rfl rfl mb (ot l x.lhs) (CoL.refl _) rfl rfl ?_; (iterate 3 refine qy ?_); refine a6 ?_; refine ⟨by kernel_rfl, ?_⟩
 exact hx8 rfl rfl rfl (⟨ccb (decide_eq_decide.2 fy), trivial⟩)
theorem awe : goodFn Tryz.prog 170 := ⟨Tryz.f170, Tryz.func170, by kernel_rfl, by kernel_rfl⟩
theorem b0n (l : List Fd) (x : Fd) : ah Tryz.prog 170 [pP (fdl l), x.pc] (ap [pB (imp l x)]) := by
 refine ag (nt := 12) af Tryz.func170 rfl rfl l9 ?_; refine sx7 ?_; refine m9 0 ?_; refine qy ?_; refine a6 ?_; refine a7 ?_; refine b7 (E := bm) af ar [0, 1, 2, 3, 4, 5, 6, 7] ?_
 (iterate 5 refine qy ?_); refine rc rfl rfl rfl rfl rfl rfl a1e (a0v l x.lhs) (CoL.refl _) rfl rfl ?_; refine rc rfl rfl rfl rfl rfl rfl u7 (y3 x.rhs (clo l x.lhs)) (CoL.refl _) rfl rfl ?_; refine qy ?_
 refine a6 ?_; refine ⟨by kernel_rfl, ?_⟩
 exact hx8 rfl rfl rfl (CoL.refl _)
end Go.Hx
end
section
namespace Go.Hx
variable {α : Type}
theorem bt [Inhabited α] {l : List α} {q : Nat} (hq : q < l.length) : l.take (q + 1) = l.take q ++ [l.getD q default] := by
 rw [List.take_add_one, List.getElem?_eq_getElem hq]
 simp [List.getD, hq]
theorem ajq [Inhabited α] {l : List α} {q : Nat} (h0 : 0 < q) (hq : q ≤ l.length) : (l.take q).getLast? = some (l.getD (q - 1) default) := by
 obtain ⟨k, rfl⟩ : ∃ k, q = k + 1 := ⟨q - 1, by omega⟩
 rw [bt (by omega), List.getLast?_append]
 simp
section
variable [DecidableEq α]
def j6 : Option α → List α → List α
 | _, [] => []
 | p, x :: l => if p = some x then j6 p l else x :: j6 (some x) l
def lc (l : List α) : List α := j6 none l
def wo (p : Option α) (l : List α) : Option α := match l.getLast? with | some y => some y | none => p
theorem ae0 (p : Option α) (y : α) (l : List α) : wo p (y :: l) = wo (some y) l := by
 unfold wo
 cases l with
 | nil => rfl
 | cons z l => simp [List.getLast?_cons]
theorem a05 (x : α) : ∀ (l : List α) (p : Option α), j6 p (l ++ [x]) = j6 p l ++ (if wo p l = some x then [] else [x])
 | [], p => by
  unfold wo
  simp only [List.nil_append, j6, List.getLast?_nil]
  by_cases h : p = some x <;> simp [h]
 | y :: l, p => by
  rw [ae0]
  simp only [List.cons_append, j6]
  split
  · rename_i h
    rw [a05 x l p, h]
  · rw [a05 x l (some y)]; rfl
theorem lh [Inhabited α] {l : List α} {q : Nat} (h0 : 0 < q) (hq : q < l.length) : lc (l.take (q + 1)) = lc (l.take q) ++ (if l.getD (q - 1) default = l.getD q default then [] else [l.getD q default]) := by
 unfold lc
 rw [bt hq, a05]
 unfold wo
 rw [ajq h0 (by omega)]
 simp
theorem tu [Inhabited α] {l : List α} : ∀ {k : Nat}, k ≤ l.length → (∀ j, 0 < j → j < k → ¬ l.getD j default = l.getD (j - 1) default) → lc (l.take k) = l.take k
 | 0, _, _ => rfl
 | 1, hk, _ => by
  rw [bt (by omega)]
  simp [lc, j6]
 | k + 2, hk, h => by
  rw [lh (by omega) (by omega), tu (by omega) (fun j h1 h2 => h j h1 (by omega)), if_neg (fun e => h (k + 1) (by omega) (by omega) e.symm), ← bt (by omega)]
theorem a40 : ∀ (l : List α) (p : Option α), ∀ x ∈ j6 p l, x ∈ l
 | [], _, x, h => by simp [j6] at h
 | y :: l, p, x, h => by
  simp only [j6] at h
  split at h
  · exact List.mem_cons_of_mem _ (a40 l p x h)
  · rcases List.mem_cons.1 h with rfl | h
    · exact List.mem_cons_self
    · exact List.mem_cons_of_mem _ (a40 l _ x h)
theorem a3z : ∀ (l : List α) (p : Option α), ∀ x ∈ l, p = some x ∨ x ∈ j6 p l
 | y :: l, p, x, h => by
  simp only [j6]
  split
  · rename_i hp
    rcases List.mem_cons.1 h with rfl | h
    · exact .inl hp
    · exact a3z l p x h
  · rcases List.mem_cons.1 h with rfl | h
    · exact .inr List.mem_cons_self
    · rcases a3z l (some y) x h with h | h
      · simp only [Option.some.injEq] at h
        subst h
        exact .inr List.mem_cons_self
      · exact .inr (List.mem_cons_of_mem _ h)
theorem adg {l : List α} {x : α} : x ∈ lc l ↔ x ∈ l := ⟨a40 l none x, fun h => by
 rcases a3z l none x h with h | h
 · cases h
 · exact h⟩
end
section
variable [Inhabited α]
theorem mn {l : List α} {p : Nat} {v : α} (hp : p < l.length) : (l.set p v).getD p default = v := by simp [List.getD, hp]
theorem getD_set_ne' {l : List α} {p j : Nat} {v : α} (h : j ≠ p) : (l.set p v).getD j default = l.getD j default := by
 simp only [List.getD, List.getElem?_set_ne (Ne.symm h)]
theorem a89 {wr wr' : Bool} {n p k : Nat} {e : TypeId} {c : α → Nat → PV} {l : List α} {v : α} {x : PV} (hw : wr' = true → wr = true) (hn : n = l.length) (hp : k = p) (hk : p < l.length) (hx : x = c v 0) :
 CoO (.arr wr 1 e n (fb (lf c l) k 0 [x])) (.arr wr' 1 e n (lf c (l.set p v))) := by
 subst hp hx hn
 refine ⟨hw, rfl, rfl, rfl, fun i j hi hj => CoP.of_eq ?_⟩
 obtain rfl : j = 0 := by omega
 unfold fb lf
 by_cases h : i = k
 · subst h
   rw [if_pos ⟨rfl, by omega, by simp⟩, mn hk]
   rfl
 · rw [if_neg (by omega), getD_set_ne' h]
theorem sa {wr wr' : Bool} {n p k q d : Nat} {e : TypeId} {c : α → Nat → PV} {l l' : List α} (hw : wr' = true → wr = true) (hn : n = l.length) (hp : k = p) (hk : p < l.length) (hd : d = q) :
 CoO (.arr wr 1 e n (fb (lf c l) k 0 [lf c l' d 0])) (.arr wr' 1 e n (lf c (l.set p (l'.getD q default)))) := a89 hw hn hp hk (by rw [hd]; rfl)
theorem a7j {n m a : Nat} {cl : Bool} {c : α → Nat → PV} {l l' : List α} {z : List Value} {p : Option Int} {h : Option Int} (hn : im (c4 n h) p = l'.length) (hp : p = none) (ha : l'.length ≤ a) (hl : l' = l.take l'.length) :
 CoP (.sl (im (c4 n h) p) 1 cl (n4 (qr (lf c l) a m z) p)) (psl 1 c l') := by
 subst hp
 refine CoP.sl hn.symm (.inl rfl) (fun h => by cases h) fun i j hi hj => CoP.of_eq ?_
 rw [hn] at hi
 show qr (lf c l) a m z i j = lf c l' i j
 unfold qr
 rw [if_neg (by omega)]
 simp only [lf, List.getD]
 have e : l'[i]? = l[i]? := by rw [hl, List.getElem?_take, if_pos hi]
 rw [e]
end
abbrev sC : AS → Nat → PV := fun s _ => asC s
structure CpI (l : List AS) (k p q : Nat) (m : List AS) : Prop where
 len : m.length = l.length
 kq : k < q
 pq : p < q
 ql : q ≤ l.length
 pre : m.take p = lc (l.take q)
 high : ∀ j, q - 1 ≤ j → m.getD j default = l.getD j default
theorem CpI.start {l : List AS} {k : Nat} (h1 : 1 ≤ k) (hk : k < l.length) (h : ∀ j, 0 < j → j < k → ¬ l.getD j default = l.getD (j - 1) default) (hd : l.getD k default = l.getD (k - 1) default) : CpI l k k (k + 1) l :=
 ⟨rfl, by omega, by omega, by omega, by rw [lh (by omega) hk, if_pos hd.symm, List.append_nil, tu (by omega) h], fun _ _ => rfl⟩
theorem CpI.skip {l : List AS} {k p q : Nat} {m : List AS} (h : CpI l k p q m) (hq : q < l.length) (he : m.getD q default = m.getD (q - 1) default) : CpI l k p (q + 1) m := by
 have hk := h.kq
 refine ⟨h.len, by omega, by have := h.pq; omega, hq, ?_, fun j hj => h.high j (by omega)⟩
 rw [h.high q (by omega), h.high (q - 1) (by omega)] at he
 rw [lh (by omega) hq, if_pos he.symm, List.append_nil, h.pre]
theorem CpI.keep {l : List AS} {k p q : Nat} {m : List AS} (h : CpI l k p q m) (hq : q < l.length) (he : ¬ m.getD q default = m.getD (q - 1) default) : CpI l k (p + 1) (q + 1) (m.set p (m.getD q default)) := by
 have hk := h.kq
 have hp := h.pq
 have hl := h.len
 refine ⟨by simp [hl], by omega, by omega, hq, ?_, fun j hj => by rw [getD_set_ne' (by omega)]; exact h.high j (by omega)⟩
 have e := h.high q (by omega)
 rw [e, h.high (q - 1) (by omega)] at he
 rw [lh (by omega) hq, if_neg (fun e => he e.symm), ← h.pre, bt (by simp [hl]; omega), mn (by omega), e]
 congr 1
 rw [List.take_set, List.set_eq_of_length_le (by simp; omega)]
theorem a7l {l : List AS} {a b a' b' : Nat} (h : asI (l.getD a' default) = asI (l.getD b' default)) (ha : a' = a) (hb : b' = b) : l.getD a default = l.getD b default := by subst ha hb; exact db.1 h
theorem a7r {l : List AS} {a b a' b' : Nat} (h : ¬ asI (l.getD a' default) = asI (l.getD b' default)) (ha : a' = a) (hb : b' = b) : ¬ l.getD a default = l.getD b default := by subst ha hb; exact fun e => h (congrArg asI e)
theorem afq {l : List AS} {k : Nat} (hk : l.length ≤ k) (h : ∀ j, 0 < j → j < k → ¬ l.getD j default = l.getD (j - 1) default) : CoP (.sl l.length 1 false (lf sC l)) (asl (lc l)) := by
 have := tu (Nat.le_refl l.length) fun j h1 h2 => h j h1 (by omega)
 rw [List.take_length] at this
 rw [this]
 exact CoP.refl _
theorem ax7 {l m : List AS} {k p q n a d : Nat} {cl : Bool} {z : List Value} (hC : CpI l k p q m) (hq : ¬ q < l.length) (ha : p ≤ a) : CoP (.sl (im (c4 n (some (p : Int))) none) 1 cl (n4 (qr (lf sC m) a d z) none)) (asl (lc l)) := by
 have e := hC.pre
 have h1 := hC.ql
 have h2 := hC.len
 have h3 := hC.pq
 rw [show q = l.length by omega, List.take_length] at e
 have el : (lc l).length = p := by rw [← e]; simp; omega
 exact a7j (by rw [el]; rfl) rfl (by omega) (by rw [el, e])
end Go.Hx
end
section
namespace Go.Hx
open Go.Proofs
set_option maxRecDepth 100000
theorem aui : goodFn Tryz.prog 114 := ⟨Tryz.f114, Tryz.func114, by kernel_rfl, by kernel_rfl⟩
theorem ap7 (l : List AS) : ee Tryz.prog 114 [.one (.ref 900 l.length)] [(900, .arr true 1 38 l.length (lf sC l))] (.v (.one (.p (asl (lc l))))) [] [] := by
 refine gl (nt := 61) af Tryz.func114 rfl rfl l9 rfl ?_; refine a7 ?_
 refine ahj 900 rfl fun hlen => ?_
 refine gy ?_; refine qy ?_; refine a6 ?_; refine a7 ?_; refine sx7 ?_; (iterate 3 refine qy ?_); refine a6 ?_; refine a8 _ rfl (fun r0 => ?_) (fun r0 => ?_)
 ·
  have h0 := of_decide_eq_true r0
  try simp only [ty] at h0
  refine sx7 ?_; (iterate 2 refine qy ?_); refine a6 ?_; refine br 2 rfl rfl rfl ?_; refine am ?_; refine ⟨.inr rfl, ?_⟩
  exact ⟨_, _, rfl, (by (repeat' apply And.intro) <;> first | trivial | exact Nat.le_of_ble_eq_true rfl), afq (k := l.length) (Nat.le_refl _) (fun j h1 h2 => by omega), trivial⟩
 ·
  have h0 := of_decide_eq_false r0
  try simp only [ty] at h0
  refine aa ?_; refine a7 ?_; refine sx7 ?_; refine qy ?_; refine a6 ?_; refine ae ?_
  refine ai (ι := Nat) ⟨[(0, some _)], [(900, some _)]⟩ ⟨⟨c9, trivial⟩, ⟨u9, trivial⟩⟩ (fun k => ⟨[(3, some (vI k))], []⟩) (fun k => 1 ≤ k ∧ k ≤ l.length ∧ ∀ j, 0 < j → j < k → ¬ l.getD j default = l.getD (j - 1) default) (fun k => l.length - k) (1) (⟨Nat.le_refl _, by omega, fun j h1 h2 => by omega⟩) ⟨⟨zy, trivial⟩, trivial⟩ ?_
  rintro k ⟨hk1, hk, hI⟩
  refine a7 ?_; refine sx7 ?_; (iterate 4 refine qy ?_); refine a6 ?_; refine a8 _ rfl (fun r1 => ?_) (fun r1 => ?_)
  ·
   have h1 := of_decide_eq_true r1
   try simp only [ty] at h1
   refine aa ?_; refine a7 ?_; refine ae ?_; refine a7 ?_; refine b7 (E := bm) af ar [0, 1, 2, 3, 4, 5, 6, 7, 8, 9] ?_; (iterate 10 refine qy ?_); refine a6 ?_; refine ⟨by kernel_rfl, ?_⟩
   refine a8 _ rfl (fun r2 => ?_) (fun r2 => ?_)
   ·
    have h2 := of_decide_eq_true r2
    try simp only [ty] at h2
    refine sx7 ?_; (iterate 4 refine qy ?_); refine a6 ?_; refine a7 ?_; refine sx7 ?_; refine qy ?_; refine a6 ?_; refine ae ?_
    refine ai (ι := Nat × Nat × List AS) ⟨[(0, some _), (4, some _)], []⟩ ⟨⟨c9, c9, trivial⟩, trivial⟩ (fun x => ⟨[(3, some (vI x.1)), (5, some (vI ((x.2.1 : Int) - k)))], [(900, some (.arr true 1 38 l.length (lf sC x.2.2)))]⟩) (fun x => CpI l k x.1 x.2.1 x.2.2) (fun x => l.length - x.2.1) ((k, k + 1, l)) (CpI.start hk1 (by omega) hI (a7l (by assumption) rfl (by omega))) ⟨⟨zy, ⟨_, rfl, (coi (by first | rfl | (dsimp only; omega)))⟩, trivial⟩, ⟨u9, trivial⟩⟩ ?_
    rintro ⟨p, q, m⟩ hC
    have hC0 := hC
    obtain ⟨hml, hkq, hpq, hql, _, _⟩ := hC0
    dsimp only at hC hml hkq hpq hql
    refine a7 ?_; refine sx7 ?_; (iterate 4 refine qy ?_); refine a6 ?_; refine a8 _ rfl (fun r3 => ?_) (fun r3 => ?_)
    ·
     have h3 := of_decide_eq_true r3
     try simp only [ty] at h3
     simp only [im, c4, Int.toNat_natCast] at h3
     refine aa ?_; refine a7 ?_; refine ae ?_; refine a7 ?_; refine b7 (E := bm) af ar [0, 1, 2, 3, 4, 5, 6, 7, 8, 9] ?_; (iterate 10 refine qy ?_); refine a6 ?_
     refine ⟨by kernel_rfl, ?_⟩; refine a8 _ rfl (fun r4 => ?_) (fun r4 => ?_)
     ·
      have h4 := r4
      have h4 := of_decide_eq_false (ax h4)
      try simp only [ty] at h4
      refine sx7 ?_; (iterate 7 refine qy ?_); refine s9 ?_; refine a6 ?_; refine gy ?_; (iterate 3 refine qy ?_); refine a6 ?_; refine gy ?_; (iterate 3 refine qy ?_); refine a6 ?_
      first | (refine ⟨(p + 1, q + 1, m.set p (m.getD q default)), ?_, ?_, ?_⟩
               · exact hC.keep (by omega) (a7r (by assumption) (by simp only [c4]; omega) (by simp only [c4]; omega))
               · first | omega | (dsimp only; omega)
               · exact ⟨⟨⟨_, rfl, (coi (by first | rfl | (dsimp only; omega)))⟩, ⟨_, rfl, (coi (by first | rfl | (dsimp only; omega)))⟩, c9, c9, trivial⟩, ⟨⟨_, rfl, (sa id hml.symm (by omega) (by dsimp only; omega) (by simp only [c4]; omega))⟩, trivial⟩⟩)
            | (refine ⟨(p, q + 1, m), ?_, ?_, ?_⟩
               · exact hC.skip (by omega) (a7l (by assumption) (by simp only [c4]; omega) (by simp only [c4]; omega))
               · first | omega | (dsimp only; omega)
               · exact ⟨⟨⟨_, rfl, (coi (by first | rfl | (dsimp only; omega)))⟩, ⟨_, rfl, (coi (by first | rfl | (dsimp only; omega)))⟩, c9, c9, trivial⟩, ⟨u9, trivial⟩⟩)
     ·
      have h4 := r4
      have h4 := of_decide_eq_true (aw h4)
      try simp only [ty] at h4
      refine aa ?_; refine gy ?_; (iterate 3 refine qy ?_); refine a6 ?_
      first | (refine ⟨(p + 1, q + 1, m.set p (m.getD q default)), ?_, ?_, ?_⟩
               · exact hC.keep (by omega) (a7r (by assumption) (by simp only [c4]; omega) (by simp only [c4]; omega))
               · first | omega | (dsimp only; omega)
               · exact ⟨⟨⟨_, rfl, (coi (by first | rfl | (dsimp only; omega)))⟩, ⟨_, rfl, (coi (by first | rfl | (dsimp only; omega)))⟩, c9, c9, trivial⟩, ⟨⟨_, rfl, (sa id hml.symm (by omega) (by dsimp only; omega) (by simp only [c4]; omega))⟩, trivial⟩⟩)
            | (refine ⟨(p, q + 1, m), ?_, ?_, ?_⟩
               · exact hC.skip (by omega) (a7l (by assumption) (by simp only [c4]; omega) (by simp only [c4]; omega))
               · first | omega | (dsimp only; omega)
               · exact ⟨⟨⟨_, rfl, (coi (by first | rfl | (dsimp only; omega)))⟩, ⟨_, rfl, (coi (by first | rfl | (dsimp only; omega)))⟩, c9, c9, trivial⟩, ⟨u9, trivial⟩⟩)
    ·
     have h3 := of_decide_eq_false r3
     try simp only [ty] at h3
     simp only [im, c4, Int.toNat_natCast] at h3
     refine ak ?_; refine sx7 ?_; (iterate 3 refine qy ?_); refine ra 0 true rfl rfl rfl rfl rfl rfl ?_; refine a6 ?_; refine sx7 ?_; (iterate 2 refine qy ?_); refine apm rfl rfl rfl rfl rfl ?_; refine qy ?_
     refine a6 ?_; refine am ?_; refine ⟨.inr rfl, ?_⟩
     exact ⟨_, _, rfl, (by (repeat' apply And.intro) <;> first | trivial | exact Nat.le_of_ble_eq_true rfl), ax7 hC (by omega) (by simp [c4]), trivial⟩
   ·
    have h2 := of_decide_eq_false r2
    try simp only [ty] at h2
    refine aa ?_; refine gy ?_; (iterate 3 refine qy ?_); refine a6 ?_; refine ⟨k + 1, ?_, ?_, ?_⟩
    · refine ⟨by omega, by show k + 1 ≤ _; omega, fun j h1 h2 => ?_⟩
      rcases Nat.lt_or_eq_of_le (Nat.le_of_lt_succ h2) with h | h
      · exact hI j h1 h
      · subst h
        exact a7r (by assumption) rfl (by omega)
    · first | omega | (dsimp only; omega)
    · exact ⟨⟨zy, c9, trivial⟩, ⟨u9, trivial⟩⟩
  ·
   have h1 := of_decide_eq_false r1
   try simp only [ty] at h1
   refine ak ?_; refine sx7 ?_; (iterate 2 refine qy ?_); refine a6 ?_; refine br 2 rfl rfl rfl ?_; refine am ?_; refine ⟨.inr rfl, ?_⟩
   exact ⟨_, _, rfl, (by (repeat' apply And.intro) <;> first | trivial | exact Nat.le_of_ble_eq_true rfl), afq (k := k) (by omega) hI, trivial⟩
end Go.Hx
end
section
namespace Go.Hx
section
variable {α : Type} [Inhabited α] {p : α → Bool} {l : List α}
theorem ad7 (h : idx p l = -1) : ∀ j, j < l.length → p (l.getD j default) = false := fun j hj => by
 cases hc : p (l.getD j default) with
 | false => rfl
 | true =>
  exfalso
  have hx : ∃ x ∈ l, p x = true := ⟨l[j], List.getElem_mem hj, by simpa [List.getD, hj] using hc⟩
  unfold idx at h
  cases hf : l.findIdx? p with
  | none =>
   rw [List.findIdx?_eq_none_iff] at hf
   obtain ⟨x, hx, hp⟩ := hx
   rw [hf x hx] at hp
   cases hp
  | some i => rw [hf] at h; simp only at h; omega
theorem a2w (h : ¬ idx p l = -1) : ∃ i : Nat, idx p l = i ∧ i < l.length ∧ p (l.getD i default) = true ∧ ∀ j, j < i → p (l.getD j default) = false := by
 unfold idx at h ⊢
 cases hf : l.findIdx? p with
 | none => rw [hf] at h; exact absurd rfl h
 | some i =>
  obtain ⟨h1, h2, h3⟩ := List.findIdx?_eq_some_iff_getElem.1 hf
  refine ⟨i, rfl, h1, by simpa [List.getD, h1] using h2, fun j hj => ?_⟩
  have := h3 j hj
  simp only [List.getD, List.getElem?_eq_getElem (Nat.lt_trans hj h1), Option.getD_some]
  simpa using this
theorem zj : (decide (0 ≤ idx p l)) = l.any p := by
 unfold idx
 cases hf : l.findIdx? p with
 | none =>
  rw [List.findIdx?_eq_none_iff] at hf
  have : l.any p = false := by
   rw [List.any_eq_false]
   intro x hx
   rw [hf x hx]
   exact Bool.false_ne_true
  rw [this]; rfl
 | some i =>
  obtain ⟨h1, h2, _⟩ := List.findIdx?_eq_some_iff_getElem.1 hf
  have : l.any p = true := List.any_eq_true.2 ⟨l[i], List.getElem_mem h1, h2⟩
  rw [this]
  exact decide_eq_true (Int.natCast_nonneg i)
theorem yc : ∀ {k : Nat}, k ≤ l.length → (∀ j, j < k → p (l.getD j default) = false) → (l.take k).filter (fun x => !p x) = l.take k
 | 0, _, _ => by simp
 | k + 1, hk, h => by rw [bt (by omega), List.filter_append, yc (by omega) fun j hj => h j (by omega)]; simp only [List.filter_cons, h k (by omega), Bool.not_false, if_true, List.filter_nil]
structure DfI (p : α → Bool) (l : List α) (k q : Nat) (m : List α) : Prop where
 len : m.length = l.length
 kq : k < q
 ql : q ≤ l.length
 pre : m.take k = (l.take q).filter fun x => !p x
 high : ∀ j, q ≤ j → m.getD j default = l.getD j default
theorem DfI.start {k : Nat} (hk : k < l.length) (h1 : p (l.getD k default) = true) (h : ∀ j, j < k → p (l.getD j default) = false) : DfI p l k (k + 1) l :=
 ⟨rfl, by omega, hk, by rw [bt hk, List.filter_append, yc (by omega) h]; simp only [List.filter_cons, h1, Bool.not_true, List.filter_nil, Bool.false_eq_true, if_false, List.append_nil], fun _ _ => rfl⟩
theorem DfI.skip {k q : Nat} {m : List α} (h : DfI p l k q m) (hq : q < l.length) (hp : p (m.getD q default) = true) : DfI p l k (q + 1) m := by
 rw [h.high q (Nat.le_refl _)] at hp
 exact ⟨h.len, by have := h.kq; omega, hq, by rw [bt hq, List.filter_append, ← h.pre]; simp only [List.filter_cons, hp, Bool.not_true, List.filter_nil, Bool.false_eq_true, if_false, List.append_nil], fun j hj => h.high j (by omega)⟩
theorem DfI.keep {k q : Nat} {m : List α} (h : DfI p l k q m) (hq : q < l.length) (hp : p (m.getD q default) = false) : DfI p l (k + 1) (q + 1) (m.set k (m.getD q default)) := by
 have e := h.high q (Nat.le_refl _)
 rw [e] at hp ⊢
 have hk := h.kq
 have hl := h.len
 refine ⟨by simp [hl], by omega, hq, ?_, fun j hj => by rw [getD_set_ne' (by omega)]; exact h.high j (by omega)⟩
 rw [bt (by simp [hl]; omega), mn (by omega), bt hq, List.filter_append, ← h.pre]
 simp only [List.filter_cons, hp, Bool.not_false, if_true, List.filter_nil]
 congr 1
 rw [List.take_set, List.set_eq_of_length_le (by simp; omega)]
end
section
variable {p : AS → Bool} {l : List AS}
theorem ax5 (h : ∀ j, j < l.length → p (l.getD j default) = false) : CoP (.sl l.length 1 false (lf sC l)) (asl (l.filter fun x => !p x)) := by
 have := yc (Nat.le_refl l.length) h
 rw [List.take_length] at this
 rw [this]
 exact CoP.refl _
theorem awh {m : List AS} {k q n a d : Nat} {cl : Bool} {z : List Value} (hC : DfI p l k q m) (hq : ¬ q < l.length) (ha : k ≤ a) : CoP (.sl (im (c4 n (some (k : Int))) none) 1 cl (n4 (qr (lf sC m) a d z) none)) (asl (l.filter fun x => !p x)) := by
 have e := hC.pre
 have h1 := hC.ql
 have h2 := hC.len
 have h3 := hC.kq
 rw [show q = l.length by omega, List.take_length] at e
 have el : (l.filter fun x => !p x).length = k := by rw [← e]; simp; omega
 exact a7j (by rw [el]; rfl) rfl (by omega) (by rw [el, e])
end
theorem a5j {a b : AS} : decide (asI a = asI b) = decide (a = b) := decide_eq_decide.2 db
instance : DecidableEq Fd := fun a b => decidable_of_iff (a.lhs = b.lhs ∧ a.rhs = b.rhs) Fd.eq_iff.symm
end Go.Hx
end
