/- A part of the proof: V18 Cs21 V19 Cs22 V20 Cs23 Hx21. -/
import Derived.ChangeArms
import Derived.OpenShut
import Derived.ProofKit
import Derived.WalkKit
import Derived.WideKeyArgs
import Derived.Test.YtidophngianjiaaGreatDoor7x14
import Derived.Test.YtidophngianjiaaGreatDoor7x24
set_option linter.all false
section
namespace Go.Hx
open Go.Proofs
set_option maxRecDepth 100000
set_option maxHeartbeats 1000000
theorem axa : goodFn Tryz.prog 72 := ⟨Tryz.f72, Tryz.func72, by kernel_rfl, by kernel_rfl⟩
theorem au9 (l : List AS) (k : Nat) (hk : k < l.length) : d7 Tryz.prog 72 [.one (.ref 900 l.length), .one (.p (.raw (.int .i64 (k : Int)))), .one (.p (.raw (.int .i64 ((k : Int) + 1))))] [(900, .arr true 1 38 l.length (lf sC l))] (.v (.one (.p (asl (l.eraseIdx k))))) [] [] := by
 refine eu (nt := 33) af Tryz.func72 rfl rfl l9 rfl ?_; refine a7 ?_
 refine a3c 900 rfl fun hlen => ?_
 refine gy ?_; refine qy ?_; refine a6 ?_; refine sx7 ?_; (iterate 6 refine qy ?_); refine a6 ?_; refine a7 ?_; refine sx7 ?_; (iterate 3 refine qy ?_); refine a6 ?_
 refine a8 _ rfl (fun r0 => ?_) (fun r0 => ?_)
 ·
  have h0 := of_decide_eq_true r0
  try simp only [ty] at h0
  exfalso
  omega
 ·
  have h0 := of_decide_eq_false r0
  try simp only [ty] at h0
  refine aa ?_; refine sx7 ?_; (iterate 3 refine qy ?_); refine a6 ?_; refine a7 ?_; refine ay (E := b6) af au [0, 1, 2, 3, 4, 5, 6, 7] ?_; (iterate 6 refine qy ?_)
  refine ra 0 true rfl rfl rfl rfl rfl rfl ?_; refine qy ?_; refine a6 ?_; refine ⟨by kernel_rfl, ?_⟩; refine sx7 ?_; (iterate 5 refine qy ?_); refine ra 1 true rfl rfl rfl rfl rfl rfl ?_; refine a6 ?_; refine sx7 ?_
  (iterate 2 refine qy ?_); refine a6 ?_; refine aev 6 rfl rfl rfl ?_; refine ap ?_; refine ⟨.inr rfl, ?_⟩
  exact ⟨_, _, rfl, (by (repeat' apply And.intro) <;> first | trivial | exact Nat.le_of_ble_eq_true rfl), (by show CoR _ _; dsimp only [dq, bd]; exact awp hk (by omega) (by omega) (by omega) (by omega) (by omega) (by omega)), trivial⟩
theorem asr : goodFn Tryz.prog 126 := ⟨Tryz.f126, Tryz.func126, by kernel_rfl, by kernel_rfl⟩
theorem ax1 (p : AS) (n : Int) (l : List Fd) : aj Tryz.prog 126 [pA p, pP (bx (.raw (.int .i64 n))), pP (bx (fdl l))] (aq [pB (o8 n l p)]) := by
 refine ag (nt := 9) af Tryz.func126 rfl rfl l9 ?_; refine sx7 ?_; refine qy ?_; refine a6 ?_; refine sx7 ?_; (iterate 3 refine qy ?_); refine rc rfl rfl rfl rfl rfl rfl axi (b06 n l p) (CoL.refl _) rfl rfl ?_
 refine qy ?_; refine a6 ?_
 exact hx8 rfl rfl rfl (CoL.refl _)
theorem awh : goodFn Tryz.prog 73 := ⟨Tryz.f73, Tryz.func73, by kernel_rfl, by kernel_rfl⟩
theorem aze (n : Int) (l : List Fd) (ps : List AS) (hn0 : 0 ≤ n) (hn1 : n ≤ 16) (hl : l.length ≤ 16777216) : aj Tryz.prog 73 [pI n, pP (fdl l), pP (asl ps)] (aq [pB (oi n l ps)]) := by
 refine ag (nt := 34) af Tryz.func73 rfl rfl l9 ?_; refine sx7 ?_; refine m9 0 ?_; refine m9 1 ?_; refine qy ?_; refine a6 ?_; refine sx7 ?_; refine qy ?_; refine a6 ?_; (iterate 2 refine a7 ?_)
 refine ce 2 rfl fun hn => ?_
 refine gy ?_; (iterate 3 refine qy ?_); refine a6 ?_; refine ae ?_; refine ct 3 rfl rfl rfl ?_; refine ct 4 rfl rfl rfl ?_
 refine ak (ι := Nat) ⟨[(2, some _), (3, some _), (4, some _), (10, some _), (11, some _)], []⟩ ⟨⟨c9, c9, c9, c9, c9, trivial⟩, trivial⟩ (fun i => ⟨[(7, some (vA (orL (ps.take i)))), (12, some (vI i))], []⟩) (fun i => i ≤ ps.length) (fun i => ps.length - i) (0) (Nat.zero_le _) ⟨⟨zy, zy, trivial⟩, trivial⟩ ?_
 rintro i hi
 refine sx7 ?_; refine qy ?_; refine a6 ?_; refine a7 ?_; refine a8 _ rfl (fun r0 => ?_) (fun r0 => ?_)
 ·
  have h0 := of_decide_eq_true r0
  try simp only [ty] at h0
  refine aa ?_; refine a7 ?_; refine ae ?_; refine sx7 ?_; (iterate 3 refine qy ?_); refine a6 ?_; refine gy ?_; (iterate 4 refine qy ?_); refine a6 ?_; refine gy ?_; (iterate 2 refine qy ?_)
  refine a6 ?_; refine ⟨i + 1, ?_, ?_, ?_⟩
  · show i + 1 ≤ _; omega
  · first | omega | (dsimp only; omega)
  · exact ⟨⟨⟨_, rfl, (n7 (by rw [bOr, a1j (by omega)]; rfl))⟩, zy, c9, c9, c9, c9, c9, trivial⟩, trivial⟩
 ·
  have h0 := of_decide_eq_false r0
  try simp only [ty] at h0
  obtain rfl : i = ps.length := by omega
  refine am ?_; refine sx7 ?_; (iterate 2 refine qy ?_); refine rc rfl rfl rfl rfl rfl rfl a8w (aet n hn0 hn1) (CoL.refl _) rfl rfl ?_; (iterate 2 refine qy ?_); refine bh rfl rfl (fun r1 => ?_) (fun r1 => ?_)
  ·
   have h1 := of_decide_eq_true r1
   try simp only [ty] at h1
   (iterate 2 refine qy ?_ (hg := (gtt r1))); refine rc rfl rfl rfl rfl rfl rfl ahn (awy l ps hl) (CoL.refl _) rfl (gtt r1) ?_; (iterate 2 refine qy ?_); refine bh rfl rfl (fun r2 => ?_) (fun r2 => ?_)
   ·
    have h2 := r2
    have h2 := dw r1 h2
    (iterate 2 refine qy ?_ (hg := (gtt r2)))
    refine rc rfl rfl rfl rfl rfl rfl a8d (aeu ps 126 2 (fun i => [bx (.raw (.int .i64 n)), bx (fdl l)].getD i .any) (o8 n l) asr (fun p => ax1 p n l)) (CoL.refl _) rfl (gtt r2) ?_; (iterate 2 refine qy ?_)
    refine a6 ?_
    exact hx8 rfl rfl rfl (⟨ccb (by first | exact a2g | exact (a7y (by assumption)).symm | exact (ab6 (by assumption)).symm), trivial⟩)
   ·
    have h2 := r2
    have h2 := dw r1 h2
    (iterate 3 refine k9 (gft r2) ?_); refine rq rfl rfl rfl rfl rfl ?_ (hp := r2); refine qy ?_; refine a6 ?_
    exact hx8 rfl rfl rfl (⟨ccb (by first | exact a2g | exact (a7y (by assumption)).symm | exact (ab6 (by assumption)).symm), trivial⟩)
  ·
   have h1 := of_decide_eq_false r1
   try simp only [ty] at h1
   (iterate 3 refine k9 (gft r1) ?_); refine rq rfl rfl rfl rfl rfl ?_ (hp := r1); refine qy ?_; (iterate 3 refine k9 rfl ?_); (iterate 2 refine qy ?_); refine a6 ?_
   exact hx8 rfl rfl rfl (⟨ccb (by first | exact a2g | exact (a7y (by assumption)).symm | exact (ab6 (by assumption)).symm), trivial⟩)
theorem avv : goodFn Tryz.prog 117 := ⟨Tryz.f117, Tryz.func117, by kernel_rfl, by kernel_rfl⟩
theorem b08 (x : Fd) (l : List Fd) (ps : List AS) : aj Tryz.prog 117 [x.pc, pP (bx (fdl l)), pP (bx (asl ps))] (aq [pB (!j9 l ps x)]) := by
 refine ag (nt := 10) af Tryz.func117 rfl rfl l9 ?_; refine sx7 ?_; refine m9 0 ?_; refine qy ?_; refine a6 ?_; refine sx7 ?_; (iterate 3 refine qy ?_)
 refine rc rfl rfl rfl rfl rfl rfl acx (ary l ps x) (CoL.refl _) rfl rfl ?_; (iterate 2 refine qy ?_); refine a6 ?_
 exact hx8 rfl rfl rfl (CoL.refl _)
theorem ay7 : goodFn Tryz.prog 59 := ⟨Tryz.f59, Tryz.func59, by kernel_rfl, by kernel_rfl⟩
theorem b1k (n : Int) (l : List Fd) : aj Tryz.prog 59 [pI n, pP (fdl l)] (aq [(a20 n l).pc, pI (a1v n l)]) := by
 refine ag (nt := 40) af Tryz.func59 rfl rfl l9 ?_; refine sx7 ?_; refine m9 0 ?_; refine m9 1 ?_; refine qy ?_; refine a6 ?_; refine sx7 ?_; (iterate 2 refine qy ?_)
 refine rc rfl rfl rfl rfl rfl rfl afk (ala n l) (CoL.refl _) rfl rfl ?_; (iterate 3 refine qy ?_); refine m9 2 ?_; refine s9 ?_; refine qy ?_; refine a6 ?_; refine a7 ?_; refine sx7 ?_; (iterate 2 refine qy ?_)
 refine a6 ?_; refine a8 _ rfl (fun r0 => ?_) (fun r0 => ?_)
 ·
  have h0 := r0
  have h0 := of_decide_eq_false (az h0)
  try simp only [ty] at h0
  refine sx7 ?_; (iterate 2 refine qy ?_); refine s9 ?_; refine qy ?_; refine a6 ?_; refine ap ?_; refine ⟨.inr rfl, ?_⟩
  have he := azv h0
  exact f9 rfl rfl (⟨xp he.1, cci he.2.symm, trivial⟩)
 ·
  have h0 := r0
  have h0 := of_decide_eq_true (b4 h0)
  try simp only [ty] at h0
  refine aa ?_; refine sx7 ?_; (iterate 2 refine qy ?_); refine rc rfl rfl rfl rfl rfl rfl asu (b0i n l) (CoL.refl _) rfl rfl ?_; (iterate 5 refine qy ?_); refine a6 ?_; refine a7 ?_; refine sx7 ?_
  (iterate 2 refine qy ?_); refine a6 ?_; refine a8 _ rfl (fun r1 => ?_) (fun r1 => ?_)
  ·
   have h1 := r1
   have h1 := of_decide_eq_false (az h1)
   try simp only [ty] at h1
   exfalso
   exact h1 (qa h0).1
  ·
   have h1 := r1
   have h1 := of_decide_eq_true (b4 h1)
   try simp only [ty] at h1
   refine aa ?_; refine a7 ?_
   have hv := (qa h0).1
   refine ct 3 rfl rfl rfl ?_; refine ct 6 rfl rfl rfl ?_; refine gy ?_; (iterate 2 refine qy ?_)
   refine rc rfl rfl rfl rfl rfl rfl atl (b0g (kf n l) 117 2 (fun i => [bx (fdl l), bx (asl (dm n l))].getD i .any) (fun f => !j9 l (dm n l) f) avv (fun x => b08 x l (dm n l))) (CoL.refl _) rfl rfl ?_
   refine qy ?_; refine a6 ?_; refine a7 ?_; refine sx7 ?_; (iterate 2 refine qy ?_); refine a6 ?_; refine a8 _ rfl (fun r2 => ?_) (fun r2 => ?_)
   ·
    have h2 := of_decide_eq_true r2
    try simp only [ty] at h2
    refine sx7 ?_; refine qy ?_; refine s9 ?_; refine qy ?_; refine a6 ?_; refine ap ?_; refine ⟨.inr rfl, ?_⟩
    have he := azn h0 (by omega)
    exact f9 rfl rfl (⟨xp he.1, cci he.2.symm, trivial⟩)
   ·
    have h2 := of_decide_eq_false r2
    try simp only [ty] at h2
    obtain ⟨i0, hi0, hi1, hi2, hi3⟩ := nn (p := fun f => !j9 l (dm n l) f) (l := kf n l) (by omega)
    refine aa ?_; refine sx7 ?_; (iterate 4 refine qy ?_); refine s9 ?_; refine qy ?_; refine a6 ?_; refine ap ?_; refine ⟨.inr rfl, ?_⟩
    have he := b05 h0 hi1 hi2 hi3
    exact f9 rfl rfl (⟨CoC.of_eq (by rw [he.1, ← Int.toNat_natCast i0, ← hi0]; rfl), cci he.2.symm, trivial⟩)
end Go.Hx
end
section
namespace Go.Hx
theorem ajd {l : List Fd} {s : AS} (h : d4 l s = true) : ∃ x, a3t l s = some x ∧ sub x s ∧ ke l s x = true := by
 unfold d4 at h
 obtain ⟨x, hx⟩ := Option.isSome_iff_exists.1 h
 refine ⟨x, hx, ?_, List.find?_some hx⟩
 have hm := List.mem_of_find?_eq_some hx
 unfold cu at hm
 split at hm
 · cases hm
 · exact a6o.1 hm
theorem a3q {a s : AS} (h : sub a s) (hne : a ≠ s) : bsz a < bsz s := by
 rcases Nat.lt_or_eq_of_le (ace h) with h1 | h1
 · exact h1
 · exfalso
   apply hne
   have hs : (aw a).Sublist (aw s) := by
    have : aw a = (aw s).filter fun i => a.getLsbD i := by
     unfold aw
     rw [List.filter_filter]
     apply List.filter_congr
     intro i hi
     rw [List.mem_range] at hi
     cases ha : a.getLsbD i with
     | false => rfl
     | true => rw [cb.1 h i hi ha]; rfl
    rw [this]
    exact List.filter_sublist
   rw [oq, oq] at h1
   have he := hs.eq_of_length h1
   refine ij h (cb.2 fun i hi hb => ?_)
   have : i ∈ aw s := k7.2 ⟨hi, hb⟩
   rw [← he] at this
   exact (k7.1 this).2
def spA (l : List Fd) (s : AS) : AS := (im l s).lhs ||| (im l s).rhs
def spB (l : List Fd) (s : AS) : AS := s &&& ~~~(im l s).rhs
theorem a79 {a b : AS} : sub (a &&& b) b := cb.2 fun i hi h => by rw [BitVec.getLsbD_and, Bool.and_eq_true] at h; exact h.2
theorem a6r {a b : AS} : sub (a &&& b) a := cb.2 fun i hi h => by rw [BitVec.getLsbD_and, Bool.and_eq_true] at h; exact h.1
theorem a82 {a b c : AS} (h : sub a b) (k : sub a c) : sub a (b &&& c) := cb.2 fun i hi ha => by rw [BitVec.getLsbD_and, cb.1 h i hi ha, cb.1 k i hi ha]; rfl
theorem apn {l : List Fd} {s : AS} (h : d4 l s = true) : sub (spA l s) s ∧ spA l s ≠ s ∧ sub (spB l s) s ∧ spB l s ≠ s := by
 obtain ⟨x, hx, hs, hv⟩ := ajd h
 unfold ke at hv
 rw [Bool.and_eq_true, decide_eq_true_iff, decide_eq_true_iff] at hv
 have e : im l s = aeh l s x := by unfold im; rw [hx]
 have hxc : sub x (clo l x &&& s) := a82 a9w hs
 have ea : spA l s = clo l x &&& s := by
  unfold spA
  rw [e]
  apply ij
  · exact yc hxc a6r
  · refine cb.2 fun i hi hb => ?_
    show (x ||| ((clo l x &&& s) &&& ~~~x)).getLsbD i = true
    rw [BitVec.getLsbD_or, BitVec.getLsbD_and, BitVec.getLsbD_not, hb, decide_eq_true hi]
    cases x.getLsbD i <;> rfl
 refine ⟨ea ▸ a79, ea ▸ hv.2, a6r, fun eb => hv.1 ?_⟩
 unfold spB at eb
 rw [e] at eb
 refine ij (cb.2 fun i hi hb => ?_) hxc
 have hsi : s.getLsbD i = true := cb.1 a79 i hi hb
 have h2 := congrArg (fun z : AS => z.getLsbD i) eb
 have h3 : (aeh l s x).rhs.getLsbD i = !x.getLsbD i := by
  show ((clo l x &&& s) &&& ~~~x).getLsbD i = _
  rw [BitVec.getLsbD_and, hb, BitVec.getLsbD_not, decide_eq_true hi]
  rfl
 simp only [BitVec.getLsbD_and, BitVec.getLsbD_not, decide_eq_true hi, hsi, h3, Bool.true_and, Bool.not_not] at h2
 exact h2
def a1x (l : List Fd) : Nat → List AS → List AS → List AS
 | 0, _, out => out
 | n + 1, todo, out =>
  if todo.length = 0 then out
  else if d4 l (todo.getD (todo.length - 1) default) = true then a1x l n (todo.take (todo.length - 1) ++ [spA l (todo.getD (todo.length - 1) default), spB l (todo.getD (todo.length - 1) default)]) out
  else a1x l n (todo.take (todo.length - 1)) (out ++ [todo.getD (todo.length - 1) default])
def aep (n : Int) (l : List Fd) : List AS := a1x l 6562 [bw n] []
def a86 (n : Int) (l : List Fd) : List AS := if fp n l 8 = 0 then fw (aep n l) else []
theorem ax0 {n : Int} {l : List Fd} (h : fp n l 8 = 0) : a86 n l = fw (aep n l) := if_pos h
theorem ay8 {n : Int} {l : List Fd} (h : ¬ fp n l 8 = 0) : a86 n l = [] := if_neg h
def mb (todo : List AS) : Nat := (todo.map fun s => 3 ^ bsz s).sum
theorem a28 (a b : List AS) : mb (a ++ b) = mb a + mb b := by unfold mb; rw [List.map_append, List.sum_append]
theorem a7u : ∀ todo : List AS, todo.length ≤ mb todo
 | [] => Nat.zero_le _
 | s :: t => by
  have h1 := a7u t
  have h2 : 0 < 3 ^ bsz s := Nat.pow_pos (by omega)
  have e : mb (s :: t) = 3 ^ bsz s + mb t := by unfold mb; rw [List.map_cons, List.sum_cons]
  rw [List.length_cons, e]
  omega
theorem a6c {todo : List AS} (h : 0 < todo.length) : todo = todo.take (todo.length - 1) ++ [todo.getD (todo.length - 1) default] := by
 have := cr (l := todo) (q := todo.length - 1) (by omega)
 rw [show todo.length - 1 + 1 = todo.length by omega, List.take_length] at this
 exact this
def yn (n : Int) (l : List Fd) (x : Nat × List AS × List AS) : Prop := a1x l x.1 x.2.1 x.2.2 = aep n l ∧ mb x.2.1 < x.1 ∧ x.2.2.length + x.1 ≤ 6562
theorem ag4 {k : Nat} (h : k ≤ 32) : bsz (ik k) ≤ k := by
 unfold bsz
 have e : (List.range 32).countP (fun i => (ik k).getLsbD i) = (List.range 32).countP fun i => decide (i < k) := by
  apply List.countP_congr
  intro i hi
  rw [List.mem_range] at hi
  rw [mf k i hi]
 have h2 : ∀ m, (List.range m).countP (fun i => decide (i < k)) ≤ k ∧ (List.range m).countP (fun i => decide (i < k)) ≤ m := by
  intro m
  induction m with
  | zero => simp
  | succ m ih =>
   rw [List.range_succ, List.countP_append]
   simp only [List.countP_cons, List.countP_nil]
   by_cases hm : m < k
   · rw [if_pos (decide_eq_true hm)]; omega
   · rw [if_neg (by simpa using hm)]; omega
 rw [e]
 exact (h2 32).1
theorem amu {n : Int} {m : Nat} (h : n ≤ m) (hm : m ≤ 32) : bsz (bw n) ≤ m := by
 unfold bw
 exact Nat.le_trans (ag4 (Nat.min_le_right _ _)) (by omega)
theorem aoc {n : Int} {l : List Fd} (h : fp n l 8 = 0) : yn n l (6562, [bw n], []) := by
 refine ⟨rfl, ?_, Nat.le_refl _⟩
 show 3 ^ bsz (bw n) + 0 < 6562
 have h1 := amu (n := n) (m := 8) (qa h).2 (by omega)
 have h2 : 3 ^ bsz (bw n) ≤ 3 ^ 8 := Nat.pow_le_pow_right (by omega) h1
 have h3 : 3 ^ 8 = 6561 := rfl
 omega
theorem zu {n : Int} {l : List Fd} {x : Nat × List AS × List AS} (h : yn n l x) : x.2.1.length < 6562 ∧ x.2.2.length ≤ 6562 ∧ 0 < x.1 := by
 have := a7u x.2.1
 obtain ⟨h1, h2, h3⟩ := h
 omega
theorem auo {n : Int} {l : List Fd} {x : Nat × List AS × List AS} (h : yn n l x) (h0 : x.2.1.length = 0) : x.2.2 = aep n l := by
 have hp := (zu h).2.2
 obtain ⟨h1, h2, h3⟩ := h
 obtain ⟨m, hm⟩ : ∃ m, x.1 = m + 1 := ⟨x.1 - 1, by omega⟩
 rw [hm] at h1
 unfold a1x at h1
 rw [if_pos h0] at h1
 exact h1
theorem ars {n : Int} {l : List Fd} {x : Nat × List AS × List AS} (h : yn n l x) (h0 : 0 < x.2.1.length) (hv : d4 l (x.2.1.getD (x.2.1.length - 1) default) = true) :
 yn n l (x.1 - 1, x.2.1.take (x.2.1.length - 1) ++ [spA l (x.2.1.getD (x.2.1.length - 1) default), spB l (x.2.1.getD (x.2.1.length - 1) default)], x.2.2) := by
 have hp := (zu h).2.2
 obtain ⟨h1, h2, h3⟩ := h
 obtain ⟨m, hm⟩ : ∃ m, x.1 = m + 1 := ⟨x.1 - 1, by omega⟩
 rw [hm] at h1
 unfold a1x at h1
 rw [if_neg (by omega), if_pos hv] at h1
 refine ⟨by rw [hm]; exact h1, ?_, by dsimp only; omega⟩
 have e := a28 (x.2.1.take (x.2.1.length - 1)) [x.2.1.getD (x.2.1.length - 1) default]
 rw [← a6c h0] at e
 have e1 : mb [x.2.1.getD (x.2.1.length - 1) default] = 3 ^ bsz (x.2.1.getD (x.2.1.length - 1) default) := by simp [mb]
 generalize x.2.1.getD (x.2.1.length - 1) default = s at *
 dsimp only
 rw [a28]
 have e2 : mb [spA l s, spB l s] = 3 ^ bsz (spA l s) + 3 ^ bsz (spB l s) := by simp [mb]
 obtain ⟨f1, f2, f3, f4⟩ := apn hv
 have g1 := a3q f1 f2
 have g2 := a3q f3 f4
 obtain ⟨b, hb⟩ : ∃ b, bsz s = b + 1 := ⟨bsz s - 1, by omega⟩
 have p1 : 3 ^ bsz (spA l s) ≤ 3 ^ b := Nat.pow_le_pow_right (by omega) (by omega)
 have p2 : 3 ^ bsz (spB l s) ≤ 3 ^ b := Nat.pow_le_pow_right (by omega) (by omega)
 have p3 : 3 ^ bsz s = 3 ^ b * 3 := by rw [hb, Nat.pow_succ]
 have p4 : 0 < 3 ^ b := Nat.pow_pos (by omega)
 omega
theorem arf {n : Int} {l : List Fd} {x : Nat × List AS × List AS} (h : yn n l x) (h0 : 0 < x.2.1.length) (hv : d4 l (x.2.1.getD (x.2.1.length - 1) default) = false) :
 yn n l (x.1 - 1, x.2.1.take (x.2.1.length - 1), x.2.2 ++ [x.2.1.getD (x.2.1.length - 1) default]) := by
 have hp := (zu h).2.2
 obtain ⟨h1, h2, h3⟩ := h
 obtain ⟨m, hm⟩ : ∃ m, x.1 = m + 1 := ⟨x.1 - 1, by omega⟩
 rw [hm] at h1
 unfold a1x at h1
 rw [if_neg (by omega), if_neg (by rw [hv]; decide)] at h1
 refine ⟨by rw [hm]; exact h1, ?_, by dsimp only; rw [List.length_append, List.length_singleton]; omega⟩
 have e := a28 (x.2.1.take (x.2.1.length - 1)) [x.2.1.getD (x.2.1.length - 1) default]
 rw [← a6c h0] at e
 have e1 : mb [x.2.1.getD (x.2.1.length - 1) default] = 3 ^ bsz (x.2.1.getD (x.2.1.length - 1) default) := by simp [mb]
 have p4 : 0 < 3 ^ bsz (x.2.1.getD (x.2.1.length - 1) default) := Nat.pow_pos (by omega)
 dsimp only
 omega
theorem adn {α : Type} [Inhabited α] {wr wr' : Bool} {n m : Nat} {e : TypeId} {c : α → Nat → PV} {l : List α} {x y : α} {f g : Nat → Nat → PV} (hn : n = l.length) (hf : ∀ i, i < l.length → CoP (f i 0) (lf c l i 0)) (h0 : CoP (g 0 0) (c x 0)) (h1 : CoP (g 1 0) (c y 0)) (hm : m = n + 2) (hw : wr' = true → wr = true := by exact fun h => h) :
 CoO (.arr wr 1 e m (f8 n f g)) (.arr wr' 1 e (l ++ [x, y]).length (lf c (l ++ [x, y]))) := by
 subst hn hm
 refine ⟨hw, rfl, rfl, by simp, fun i j hi hj => ?_⟩
 obtain rfl : j = 0 := by omega
 unfold f8
 by_cases h : i < l.length
 · rw [if_pos h]
   have := hf i h
   simp only [lf, List.getD, List.getElem?_append_left h] at this ⊢
   exact this
 · rw [if_neg h]
   rcases (by omega : i = l.length ∨ i = l.length + 1) with rfl | rfl
   · rw [Nat.sub_self]
     simp only [lf, List.getD]
     rw [List.getElem?_append_right (Nat.le_refl _), Nat.sub_self]
     exact h0
   · rw [show l.length + 1 - l.length = 1 by omega]
     simp only [lf, List.getD]
     rw [List.getElem?_append_right (by omega), show l.length + 1 - l.length = 1 by omega]
     exact h1
theorem a8x {α : Type} [Inhabited α] {wr wr' : Bool} {k m : Nat} {e : TypeId} {c : α → Nat → PV} {l : List α} (hk : k ≤ l.length) (hm : m = k) (hw : wr' = true → wr = true := by exact fun h => h) : CoO (.arr wr 1 e m (lf c l)) (.arr wr' 1 e (l.take k).length (lf c (l.take k))) := by
 subst hm
 refine ⟨hw, rfl, rfl, by rw [List.length_take, Nat.min_eq_left hk], fun i j hi hj => CoP.of_eq ?_⟩
 simp only [lf, List.getD, List.getElem?_take, if_pos hi]
theorem aro {l : List Fd} {s : AS} : PV.raw (.int .u32 (d9 .or .u32 (asI (im l s).lhs) (asI (im l s).rhs))) = sC (spA l s) 0 := congrArg (fun z => PV.raw (.int .u32 z)) (bOr _ _)
theorem ar8 {l : List Fd} {t : List AS} {i j : Nat} (h : i = j) : PV.raw (.int .u32 (d9 .andNot .u32 (asI (t.getD i default)) (asI (im l (t.getD j default)).rhs))) = sC (spB l (t.getD j default)) 0 := by
 subst h
 exact congrArg (fun z => PV.raw (.int .u32 z)) (a4l _ _)
theorem aac {l : List AS} {k i : Nat} (hi : i < (l.take k).length) : lf sC l i 0 = lf sC (l.take k) i 0 := by
 rw [List.length_take] at hi
 simp only [lf, List.getD, List.getElem?_take, if_pos (show i < k by omega)]
theorem aca {n : Int} {l : List Fd} {ps : List AS} {s : AS} {k : Nat} (hk : idx (fun x => decide (x = s)) ps = k) (h : oi n l (ps.eraseIdx k) = true) : oh n l ps s = ps.eraseIdx k := by
 unfold oh
 rw [hk, Int.toNat_natCast, if_pos h]
theorem adl {n : Int} {l : List Fd} {ps : List AS} {s : AS} {k : Nat} (hk : idx (fun x => decide (x = s)) ps = k) (h : oi n l (ps.eraseIdx k) = false) : oh n l ps s = ps := by
 unfold oh
 rw [hk, Int.toNat_natCast, if_neg (by rw [h]; decide)]
end Go.Hx
end
section
namespace Go.Hx
open Go.Proofs
set_option maxRecDepth 100000
theorem al8 : goodFn Tryz.prog 30 := ⟨Tryz.f30, Tryz.func30, by kernel_rfl, by kernel_rfl⟩
theorem axx (n : Int) (l : List Fd) : aj Tryz.prog 30 [pI n, pP (fdl l)] (aq [pP (asl (a86 n l)), pI (fp n l 8)]) := by
 refine ag (nt := 60) af Tryz.func30 rfl rfl l9 ?_; refine sx7 ?_; (iterate 2 refine qy ?_); refine a6 ?_; refine a7 ?_; refine sx7 ?_; (iterate 2 refine qy ?_)
 refine rc rfl rfl rfl rfl rfl rfl ak5 (ax9 n l) (CoL.refl _) rfl rfl ?_; refine qy ?_; refine a6 ?_; refine sx7 ?_; (iterate 2 refine qy ?_); refine a6 ?_; refine a8 _ rfl (fun r0 => ?_) (fun r0 => ?_)
 ·
  have h0 := r0
  have h0 := of_decide_eq_false (az h0)
  try simp only [ty] at h0
  refine sx7 ?_; (iterate 3 refine qy ?_); refine a6 ?_
  exact hx8 rfl rfl rfl (⟨CoC.one (a59 (ay8 h0)), CoC.refl _, trivial⟩)
 ·
  have h0 := r0
  have h0 := of_decide_eq_true (b4 h0)
  try simp only [ty] at h0
  refine aa ?_; refine a7 ?_
  have hv := it (qa h0).1
  refine gy ?_; refine qy ?_; refine a6 ?_; refine a7 ?_; refine sx7 ?_; refine qy ?_; refine rc rfl rfl rfl rfl rfl rfl a8w (aet n hv.1 hv.2.1) (CoL.refl _) rfl rfl ?_; refine m9 0 ?_; refine qy ?_; refine a6 ?_
  refine ae ?_; refine dl 7 900 true 1 38 (lf sC []) (by decide) rfl (CoP.sl rfl (.inr rfl) (fun h => h) (fun i j hi _ => absurd hi (Nat.not_lt_zero i))) (.inr rfl) rfl ?_; refine tc 8 901 rfl rfl rfl rfl ?_
  refine ak (ι := Nat × List AS × List AS) ⟨[(1, some _)], []⟩ ⟨⟨c9, trivial⟩, trivial⟩ (fun x => ⟨[(7, some (.v (.one (.ref 900 x.2.2.length)))), (8, some (.v (.one (.ref 901 x.2.1.length))))], [(900, some (.arr true 1 38 x.2.2.length (lf sC x.2.2))), (901, some (.arr true 1 38 x.2.1.length (lf sC x.2.1)))]⟩) (fun x => yn n l x) (fun x => x.1) ((6562, [bw n], [])) (aoc h0) ⟨⟨zy, zy, trivial⟩, ⟨u9, ⟨_, rfl, (a2a (CoP.refl _))⟩, trivial⟩⟩ ?_
  rintro x hx
  have hlen := zu hx
  refine tc 8 902 rfl rfl rfl rfl ?_; refine a7 ?_; refine sx7 ?_; (iterate 3 refine qy ?_); refine a6 ?_; refine a8 _ rfl (fun r1 => ?_) (fun r1 => ?_)
  ·
   have h1 := of_decide_eq_true r1
   try simp only [ty] at h1
   refine aa ?_; refine ae ?_; refine sx7 ?_; (iterate 7 refine qy ?_); refine a6 ?_; refine sx7 ?_; (iterate 6 refine qy ?_); refine a6 ?_
   refine anc ⟨[(1, some _), (7, some _), (8, some _), (9, some _)], [(900, some _), (902, some _)]⟩ (by exact ⟨⟨c9, c9, c9, c9, trivial⟩, ⟨u9, u9, trivial⟩⟩) ?_
   refine a8h 8 901 rfl rfl rfl rfl (by simp only [dq, bd, Int.toNat_natCast]; omega) rfl ?_; refine sx7 ?_; (iterate 2 refine qy ?_)
   refine rc rfl rfl rfl rfl rfl rfl a2k (a7n l (x.2.1.getD (x.2.1.length - 1) default)) (⟨CoC.refl _, CoC.one (CoP.of_eq (congrArg (fun i => asC (x.2.1.getD i default)) (by omega))), trivial⟩) rfl rfl ?_
   (iterate 3 refine qy ?_); refine m9 1 ?_; refine s9 ?_; refine qy ?_; refine a6 ?_; refine sx7 ?_; refine qy ?_; refine a6 ?_; refine a8 _ rfl (fun r2 => ?_) (fun r2 => ?_)
   ·
    have h2 := r2
    refine gy ?_; (iterate 10 refine qy ?_); refine m9 2 ?_; refine ra 3 true rfl rfl rfl rfl rfl rfl ?_; refine qy ?_; refine a6 ?_
    first | (refine ⟨(x.1 - 1, (x.2.1.take (x.2.1.length - 1)) ++ [spA l (x.2.1.getD (x.2.1.length - 1) default), spB l (x.2.1.getD (x.2.1.length - 1) default)], x.2.2), ?_, ?_, ?_⟩
             · exact ars hx (by omega) (by assumption)
             · dsimp only
               omega
             · exact ⟨⟨zy, ⟨_, rfl, (kb (by simp only [dq, bd, List.length_append, List.length_cons, List.length_nil, List.length_take]; omega))⟩, c9, trivial⟩, ⟨u9, ⟨_, rfl, (adn (by simp only [dq, bd, List.length_append, List.length_cons, List.length_nil, List.length_take]; omega) (fun i hi => CoP.of_eq (aac hi)) (CoP.of_eq aro) (CoP.of_eq (ar8 (by omega))) rfl)⟩, trivial⟩⟩)
          | (refine ⟨(x.1 - 1, (x.2.1.take (x.2.1.length - 1)), x.2.2 ++ [(x.2.1.getD (x.2.1.length - 1) default)]), ?_, ?_, ?_⟩
             · exact arf hx (by omega) (by assumption)
             · dsimp only
               omega
             · exact ⟨⟨⟨_, rfl, (ee rfl)⟩, ⟨_, rfl, (kb (by simp only [dq, bd, List.length_append, List.length_cons, List.length_nil, List.length_take]; omega))⟩, c9, trivial⟩, ⟨⟨_, rfl, (ey rfl (CoP.of_eq (congrArg (fun i => asC (x.2.1.getD i default)) (by omega))))⟩, ⟨_, rfl, (a8x (by omega) (by simp only [dq, bd]; omega))⟩, trivial⟩⟩)
   ·
    have h2 := r2
    refine gy ?_; (iterate 2 refine qy ?_); refine m9 4 ?_; refine ra 5 true rfl rfl rfl rfl rfl rfl ?_; refine qy ?_; refine a6 ?_
    first | (refine ⟨(x.1 - 1, (x.2.1.take (x.2.1.length - 1)) ++ [spA l (x.2.1.getD (x.2.1.length - 1) default), spB l (x.2.1.getD (x.2.1.length - 1) default)], x.2.2), ?_, ?_, ?_⟩
             · exact ars hx (by omega) (by assumption)
             · dsimp only
               omega
             · exact ⟨⟨zy, ⟨_, rfl, (kb (by simp only [dq, bd, List.length_append, List.length_cons, List.length_nil, List.length_take]; omega))⟩, c9, trivial⟩, ⟨u9, ⟨_, rfl, (adn (by simp only [dq, bd, List.length_append, List.length_cons, List.length_nil, List.length_take]; omega) (fun i hi => CoP.of_eq (aac hi)) (CoP.of_eq aro) (CoP.of_eq (ar8 (by omega))) rfl)⟩, trivial⟩⟩)
          | (refine ⟨(x.1 - 1, (x.2.1.take (x.2.1.length - 1)), x.2.2 ++ [(x.2.1.getD (x.2.1.length - 1) default)]), ?_, ?_, ?_⟩
             · exact arf hx (by omega) (by assumption)
             · dsimp only
               omega
             · exact ⟨⟨⟨_, rfl, (ee rfl)⟩, ⟨_, rfl, (kb (by simp only [dq, bd, List.length_append, List.length_cons, List.length_nil, List.length_take]; omega))⟩, c9, trivial⟩, ⟨⟨_, rfl, (ey rfl (CoP.of_eq (congrArg (fun i => asC (x.2.1.getD i default)) (by omega))))⟩, ⟨_, rfl, (a8x (by omega) (by simp only [dq, bd]; omega))⟩, trivial⟩⟩)
  ·
   have h1 := of_decide_eq_false r1
   try simp only [ty] at h1
   refine am ?_; refine a7 ?_; refine bu 7 rfl rfl rfl ?_
   have hx0 : x.2.1.length = 0 := by omega
   refine gy ?_; refine qy ?_; refine rc rfl rfl rfl rfl rfl rfl aga (a8c x.2.2 (by omega)) (CoL.refl _) rfl rfl ?_; (iterate 2 refine qy ?_); refine a6 ?_
   exact hx8 rfl rfl rfl (⟨CoC.one (CoP.of_eq (by rw [ax0 h0, auo hx hx0])), cci h0.symm, trivial⟩)
theorem awi : goodFn Tryz.prog 35 := ⟨Tryz.f35, Tryz.func35, by kernel_rfl, by kernel_rfl⟩
theorem b0p (n : Int) (l : List Fd) : aj Tryz.prog 35 [pI n, pP (fdl l)] (aq [pP (asl (a2u n l)), pB (td n l), pI (fp n l 8)]) := by
 refine ag (nt := 49) af Tryz.func35 rfl rfl l9 ?_; refine sx7 ?_; refine m9 0 ?_; refine m9 1 ?_; (iterate 3 refine qy ?_); refine a6 ?_; refine sx7 ?_; (iterate 2 refine qy ?_)
 refine rc rfl rfl rfl rfl rfl rfl afk (ala n l) (CoL.refl _) rfl rfl ?_; (iterate 5 refine qy ?_); refine a6 ?_; refine a7 ?_; refine sx7 ?_; (iterate 2 refine qy ?_); refine a6 ?_
 refine a8 _ rfl (fun r0 => ?_) (fun r0 => ?_)
 ·
  have h0 := r0
  have h0 := of_decide_eq_false (az h0)
  try simp only [ty] at h0
  refine sx7 ?_; (iterate 4 refine qy ?_); refine a6 ?_; refine ap ?_; refine ⟨.inr rfl, ?_⟩
  have he := axh h0
  exact f9 rfl rfl (⟨CoC.one (a59 he.1), ccb he.2.symm, CoC.refl _, trivial⟩)
 ·
  have h0 := r0
  have h0 := of_decide_eq_true (b4 h0)
  try simp only [ty] at h0
  refine aa ?_; (iterate 2 refine a7 ?_)
  have hv := it (qa h0).1
  have hsl := ao7 n l
  have hml := amp (dm n l)
  refine gy ?_; (iterate 2 refine qy ?_); refine rc rfl rfl rfl rfl rfl rfl ahn (awy l (dm n l) (by omega)) (CoL.refl _) rfl rfl ?_; refine qy ?_; refine a6 ?_; refine a8 _ rfl (fun r1 => ?_) (fun r1 => ?_)
  ·
   have h1 := r1
   have h1 := az h1
   refine sx7 ?_; (iterate 3 refine qy ?_); refine a6 ?_; refine ap ?_; refine ⟨.inr rfl, ?_⟩
   have he := ayq (n := n) (l := l) (by assumption)
   exact f9 rfl rfl (⟨CoC.one (a59 he.1), ccb he.2.symm, cci h0.symm, trivial⟩)
  ·
   have h1 := r1
   have h1 := b4 h1
   refine aa ?_; refine sx7 ?_; refine qy ?_; refine rc rfl rfl rfl rfl rfl rfl aga (a8c (dm n l) (by omega)) (CoL.refl _) rfl rfl ?_; refine m9 2 ?_; refine s9 ?_; refine a6 ?_; (iterate 2 refine a7 ?_)
   refine ct 2 rfl rfl rfl ?_; refine ct 3 rfl rfl rfl ?_; refine gy ?_; refine qy ?_
   refine rc rfl rfl rfl rfl rfl rfl xc (aqp (fw (dm n l)).length false (lf sC (fw (dm n l))) (by omega)) (CoL.refl _) rfl rfl ?_
   refine rc rfl rfl rfl rfl rfl rfl axr (c74 (fw (dm n l)).length false (lf sC (fw (dm n l)))) (CoL.refl _) rfl rfl ?_; refine a6 ?_; refine ae ?_
   refine apw (ι := List AS) (swp 2 1000) (adh 2 1000) rfl aut (azl (fw (dm n l)).length false (lf sC (fw (dm n l))) (by omega)) [(2, some (br (bx (.raw (.int .i64 n))))), (3, some (br (bx (fdl l)))), (9, some (.v (.one (.ptr 2 0))))] (fun ps => [(2, .box [.p (asl ps)])]) (fun i ps => a7r n l (fw (dm n l)) i ps) ((fw (dm n l))) (alb n l (fw (dm n l))) ⟨⟨c9, c9, c9, trivial⟩, ⟨u9, trivial⟩⟩ [2] (fun _ _ => rfl) rfl rfl ?_ ?_
   · rintro lp i ps hi hI
     have hpl := hI.2.1
     refine gy ?_; refine qy ?_; refine a6 ?_; refine ⟨rfl, ?_⟩; refine ae ?_; refine sx7 ?_; (iterate 2 refine qy ?_)
     refine rc rfl rfl rfl rfl rfl rfl az7 (b1a ps ((fw (dm n l)).getD ((fw (dm n l)).length - 1 - i) default)) (CoL.refl _) rfl rfl ?_; refine qy ?_; refine a6 ?_; refine a7 ?_
     obtain ⟨k, hk1, hk2, hk3⟩ := a2l (hI.2.2 ((fw (dm n l)).length - 1 - i) (by omega))
     refine gy ?_; refine qy ?_; refine bv rfl rfl rfl rfl rfl rfl xc (v8 ps.length false (lf sC ps) (by omega)) (dg.refl _) trivial rfl rfl ?_; (iterate 3 refine qy ?_)
     refine bv rfl rfl rfl rfl rfl rfl axa ((au9 ps k hk2).swap 900 0) (⟨rfl, CoP.of_eq (by rw [hk1]), CoP.of_eq (by rw [hk1]), trivial⟩) ⟨u9, trivial⟩ rfl rfl ?_; refine qy ?_; refine a6 ?_; refine sx7 ?_
     (iterate 3 refine qy ?_); refine rc rfl rfl rfl rfl rfl rfl awh (aze n l (ps.eraseIdx k) hv.1 hv.2.1 (by omega)) (CoL.refl _) rfl rfl ?_; refine a6 ?_; refine a8 _ rfl (fun r2 => ?_) (fun r2 => ?_)
     ·
      have h2 := r2
      refine gy ?_; refine qy ?_; refine s9 ?_; refine a6 ?_; refine ⟨rfl, oh n l ps ((fw (dm n l)).getD ((fw (dm n l)).length - 1 - i) default), ?_, ?_⟩
      · exact a78 (a2v _) hI hi
      ·
       exact ⟨⟨_, rfl, (by first | exact ⟨CoP.of_eq (by rw [aca hk1 (by assumption)]), trivial⟩ | exact ⟨CoP.of_eq (by rw [adl hk1 (by assumption)]), trivial⟩)⟩, trivial⟩
     ·
      have h2 := r2
      refine aa ?_; refine ⟨rfl, oh n l ps ((fw (dm n l)).getD ((fw (dm n l)).length - 1 - i) default), ?_, ?_⟩
      · exact a78 (a2v _) hI hi
      ·
       exact ⟨⟨_, rfl, (by first | exact ⟨CoP.of_eq (by rw [aca hk1 (by assumption)]), trivial⟩ | exact ⟨CoP.of_eq (by rw [adl hk1 (by assumption)]), trivial⟩)⟩, trivial⟩
   · rintro ps hI
     refine sx7 ?_; (iterate 4 refine qy ?_); refine a6 ?_; refine ap ?_; refine ⟨.inr rfl, ?_⟩
     have he := axe h0 (by assumption)
     exact f9 rfl rfl (⟨CoC.one (CoP.of_eq (by rw [he.1, ← hI.1])), ccb he.2.symm, cci h0.symm, trivial⟩)
end Go.Hx
end
section
namespace Go.Hx
open Go.Proofs
set_option maxRecDepth 100000
def n9 : List Fd := [⟨1, 2⟩, ⟨2, 4⟩]
def lq : List Fd := [⟨3, 4⟩, ⟨4, 1⟩]
theorem aa6 : tj n9 7 = ⟨2, 4⟩ ∧ om n9 7 = true ∧ md n9 7 = 0 := by decide +kernel
theorem ahy : a86 3 n9 = [3, 6] ∧ fp 3 n9 8 = 0 := by decide +kernel
theorem a54 : a86 3 lq = [5, 6] ∧ fp 3 lq 8 = 0 := by decide +kernel
theorem alf : a20 3 lq = ⟨3, 4⟩ ∧ a1v 3 lq = 0 := by decide +kernel
theorem asf : td 3 lq = false := by decide +kernel
theorem xk {x y : Fd} {cl : Bool} {f : Nat → Nat → PV} (h0 : CoP (f 0 0) (x.c 0)) (h1 : CoP (f 0 1) (x.c 1)) (h2 : CoP (f 1 0) (y.c 0)) (h3 : CoP (f 1 1) (y.c 1)) : CoP (.sl 2 2 cl f) (fdl [x, y]) :=
 CoP.sl rfl (.inl rfl) (fun h => by cases h) fun i j hi hj => by
  rcases (by omega : i = 0 ∨ i = 1) with rfl | rfl <;> rcases (by omega : j = 0 ∨ j = 1) with rfl | rfl
  · exact h0
  · exact h1
  · exact h2
  · exact h3
theorem azm : aj Tryz.prog 58 [pP (fdl n9), pA 7] (aq [Fd.pc ⟨2, 4⟩, pB true, pI 0]) := by
 have h := b20 n9 7
 rw [aa6.1, aa6.2.1, aa6.2.2] at h
 exact h
theorem b0v : aj Tryz.prog 30 [pI 3, pP (fdl n9)] (aq [pP (asl [3, 6]), pI 0]) := by
 have h := axx 3 n9
 rw [ahy.1, ahy.2] at h
 exact h
theorem b0k : aj Tryz.prog 30 [pI 3, pP (fdl lq)] (aq [pP (asl [5, 6]), pI 0]) := by
 have h := axx 3 lq
 rw [a54.1, a54.2] at h
 exact h
theorem b0a : aj Tryz.prog 59 [pI 3, pP (fdl lq)] (aq [Fd.pc ⟨3, 4⟩, pI 0]) := by
 have h := b1k 3 lq
 rw [alf.1, alf.2] at h
 exact h
theorem axk : aj Tryz.prog 35 [pI 3, pP (fdl lq)] (aq [pP (asl (a2u 3 lq)), pB false, pI 0]) := by
 have h := b0p 3 lq
 rw [asf, a54.2] at h
 exact h
theorem asz : aj Tryz.prog 32 [pP (asl [3, 6]), pP (asl [3, 6])] (aq [pB true]) := by
 have h := am4 [3, 6] [3, 6]
 rw [decide_eq_true rfl] at h
 exact h
theorem atn : aj Tryz.prog 32 [pP (asl [5, 6]), pP (asl [5, 6])] (aq [pB true]) := by
 have h := am4 [5, 6] [5, 6]
 rw [decide_eq_true rfl] at h
 exact h
theorem aan {α : Type} [Inhabited α] {wr wr' : Bool} {e : TypeId} {c : α → Nat → PV} {x y : α} {f : Nat → Nat → PV} (h0 : CoP (f 0 0) (c x 0)) (h1 : CoP (f 1 0) (c y 0)) (hw : wr' = true → wr = true := by exact fun h => h) : CoO (.arr wr 1 e 2 f) (.arr wr' 1 e 2 (lf c [x, y])) :=
 ⟨hw, rfl, rfl, rfl, fun i j hi hj => by
  have hi : i < 2 := hi
  have hj : j < 1 := hj
  obtain rfl : j = 0 := by omega
  rcases (by omega : i = 0 ∨ i = 1) with rfl | rfl
  · exact h0
  · exact h1⟩
end Go.Hx
end
section
namespace Go.Hx
open Go.Proofs
set_option maxRecDepth 100000
theorem a94 : goodFn Tryz.prog 29 := ⟨Tryz.f29, Tryz.func29, by kernel_rfl, by kernel_rfl⟩
theorem aaj  : aj Tryz.prog 29 [] (aq [pB true]) := by
 refine ag (nt := 93) af Tryz.func29 rfl rfl l9 ?_; refine sx7 ?_; refine qy ?_; refine a6 ?_; refine sx7 ?_; (iterate 2 refine qy ?_); refine m9 0 ?_; (iterate 2 refine qy ?_); refine m9 1 ?_
 (iterate 2 refine qy ?_); refine a6 ?_; refine bu 1 rfl rfl rfl ?_; refine bu 2 rfl rfl rfl ?_; refine sx7 ?_; refine qy ?_
 refine rc rfl rfl rfl rfl rfl rfl ax7 (azm) (⟨CoC.one (xk (CoP.refl _) (CoP.refl _) (CoP.refl _) (CoP.refl _)), CoC.refl _, trivial⟩) rfl rfl ?_; (iterate 4 refine qy ?_); refine m9 2 ?_; refine s9 ?_
 (iterate 2 refine qy ?_); refine a6 ?_; refine sx7 ?_; refine qy ?_; refine rc rfl rfl rfl rfl rfl rfl al8 (b0v) (⟨CoC.refl _, CoC.one (xk (CoP.refl _) (CoP.refl _) (CoP.refl _) (CoP.refl _)), trivial⟩) rfl rfl ?_
 (iterate 5 refine qy ?_); refine a6 ?_; refine sx7 ?_; refine qy ?_; refine rc rfl rfl rfl rfl rfl rfl al8 (b0k) (⟨CoC.refl _, CoC.one (xk (CoP.refl _) (CoP.refl _) (CoP.refl _) (CoP.refl _)), trivial⟩) rfl rfl ?_
 (iterate 5 refine qy ?_); refine a6 ?_; refine sx7 ?_; refine qy ?_; refine rc rfl rfl rfl rfl rfl rfl ay7 (b0a) (⟨CoC.refl _, CoC.one (xk (CoP.refl _) (CoP.refl _) (CoP.refl _) (CoP.refl _)), trivial⟩) rfl rfl ?_
 (iterate 3 refine qy ?_); refine m9 3 ?_; refine s9 ?_; refine qy ?_; refine a6 ?_; refine sx7 ?_; refine qy ?_
 refine rc rfl rfl rfl rfl rfl rfl awi (axk) (⟨CoC.refl _, CoC.one (xk (CoP.refl _) (CoP.refl _) (CoP.refl _) (CoP.refl _)), trivial⟩) rfl rfl ?_; (iterate 7 refine qy ?_); refine a6 ?_; refine sx7 ?_
 (iterate 6 refine qy ?_); (iterate 3 refine rq rfl rfl rfl rfl (gtt (b7 rfl rfl)) ?_); (iterate 2 refine qy ?_); (iterate 2 refine rq rfl rfl rfl rfl (gtt (b7 (b7 rfl rfl) rfl)) ?_); (iterate 2 refine qy ?_)
 refine rq rfl rfl rfl rfl (gtt (b7 (b7 (b7 rfl rfl) rfl) rfl)) ?_; refine rm 4 rfl rfl rfl rfl rfl (gtt (b7 (b7 (b7 rfl rfl) rfl) rfl)) ?_
 refine bv rfl rfl rfl rfl rfl rfl alw (aj.eat (hcs := [.one (.p (asl [3, 6])), .one (.ref 4 2)]) (o1 := [(4, .arr true 1 38 2 (lf sC [3, 6]))]) (asz) rfl (by (repeat' apply And.intro) <;> first | trivial | rfl) (CoL.refl _)) (dg.refl _) ⟨⟨_, rfl, (aan (CoP.refl _) (CoP.refl _))⟩, trivial⟩ rfl (gtt (b7 (b7 (b7 rfl rfl) rfl) rfl)) ?_
 (iterate 2 refine qy ?_); (iterate 2 refine rq rfl rfl rfl rfl (gtt (b7 (b7 (b7 (b7 rfl rfl) rfl) rfl) rfl)) ?_); (iterate 2 refine qy ?_)
 refine rq rfl rfl rfl rfl (gtt (b7 (b7 (b7 (b7 (b7 rfl rfl) rfl) rfl) rfl) rfl)) ?_; refine rm 5 rfl rfl rfl rfl rfl (gtt (b7 (b7 (b7 (b7 (b7 rfl rfl) rfl) rfl) rfl) rfl)) ?_
 refine bv rfl rfl rfl rfl rfl rfl alw (aj.eat (hcs := [.one (.p (asl [5, 6])), .one (.ref 5 2)]) (o1 := [(5, .arr true 1 38 2 (lf sC [5, 6]))]) (atn) rfl (by (repeat' apply And.intro) <;> first | trivial | rfl) (CoL.refl _)) (dg.refl _) ⟨⟨_, rfl, (aan (CoP.refl _) (CoP.refl _))⟩, trivial⟩ rfl (gtt (b7 (b7 (b7 (b7 (b7 rfl rfl) rfl) rfl) rfl) rfl)) ?_
 (iterate 2 refine qy ?_); (iterate 2 refine rq rfl rfl rfl rfl (gtt (b7 (b7 (b7 (b7 (b7 (b7 rfl rfl) rfl) rfl) rfl) rfl) rfl)) ?_); (iterate 2 refine qy ?_)
 (iterate 3 refine rq rfl rfl rfl rfl (gtt (b7 (b7 (b7 (b7 (b7 (b7 (b7 rfl rfl) rfl) rfl) rfl) rfl) rfl) rfl)) ?_); (iterate 2 refine qy ?_)
 (iterate 2 refine rq rfl rfl rfl rfl (gtt (b7 (b7 (b7 (b7 (b7 (b7 (b7 (b7 rfl rfl) rfl) rfl) rfl) rfl) rfl) rfl) rfl)) ?_); (iterate 2 refine qy ?_)
 (iterate 2 refine rq rfl rfl rfl rfl (gtt (b7 (b7 (b7 (b7 (b7 (b7 (b7 (b7 (b7 rfl rfl) rfl) rfl) rfl) rfl) rfl) rfl) rfl) rfl)) ?_); (iterate 2 refine qy ?_); refine a6 ?_
 exact hx8 rfl rfl rfl (CoL.refl _)
end Go.Hx
end
section
namespace Go.Hx
open Go.Proofs
def w1 (l : List Fd) (p : AS) : Int := if ca 16 l = 0 ∧ (8 : Int) < bsz p then 3 else ca 16 l
section
variable {l : List Fd} {p : AS}
end
section
variable {n : Int} {l : List Fd}
end
end Go.Hx
end
section
namespace Go.Hx
open Go.RowKit Go.ChangeShapes Go.WideShapes Go.ChangeAt
def Rd (P : Program) (t : TypeId) (n : Nat) {α : Type} (c : α → Nat → PV) : Prop :=
 ∀ (H : Type) (enc : TypeId × Value → H) (w : World) (sp : Nat → Bool) (held : Bool) (fuel : Nat) (cs : List Value) (x : DataW H × List MemPlace), DataW.trod enc P w 0 sp held fuel t cs = some x →
  cs.length = n ∧ ∃ a : α, ∀ j, j < n → ∃ v, cs[j]? = some v ∧ b5 (ep w) (c a j) v
section
variable {P : Program} {t e : TypeId}
def b33 (k : IntKind) (z : Int) : Nat → PV := fun _ => .raw (.int k z)
def b2f (b : Bool) : Nat → PV := fun _ => .raw (.bool b)
def b2k (s : ByteArray) : Nat → PV := fun _ => .raw (.string s)
def u8P (u : UInt8) : Nat → PV := fun _ => .raw (.int .u8 (u.toNat : Int))
theorem b00 (ht : P.underlying t = some (.int .u8)) : Rd P t 1 u8P := by
 intro H enc w sp held fuel cs x h
 obtain ⟨n, rfl, _, hw⟩ := DataW.trod_int ht h
 have hx : 0 ≤ n ∧ n ≤ 255 := by simpa [Lit.wf, IntKind.min, IntKind.max, IntKind.signed, IntKind.bits] using hw
 refine ⟨rfl, UInt8.ofNat n.toNat, fun j hj => ?_⟩
 obtain rfl : j = 0 := by omega
 refine ⟨_, rfl, ?_, rfl⟩
 have : (UInt8.ofNat n.toNat).toNat = n.toNat := by
  rw [UInt8.toNat_ofNat']
  omega
 rw [this]
 congr 1
 omega
theorem Rd.co {n : Nat} {α β : Type} {c : α → Nat → PV} {c' : β → Nat → PV} (h : Rd P t n c) (f : α → β) (hc : ∀ a j, j < n → CoP (c a j) (c' (f a) j)) : Rd P t n c' := by
 intro H enc w sp held fuel cs x hx
 obtain ⟨h1, a, h2⟩ := h _ enc w sp held fuel cs x hx
 refine ⟨h1, f a, fun j hj => ?_⟩
 obtain ⟨v, h3, h4⟩ := h2 j hj
 exact ⟨v, h3, hc a j hj _ _ h4⟩
def ann {α : Type} [Inhabited α] (s : Nat) (c : α → Nat → PV) (l : List α) : Nat → PV := fun _ => psl s c l
theorem aia {H : Type} {enc : TypeId × Value → H} {w : World} {sp : Nat → Bool} {held : Bool} {fuel : Nat} {cs : List Value} {x : DataW H × List MemPlace} {fs : Array Field} (ht : P.underlying t = some (.struct fs)) (h : DataW.trod enc P w 0 sp held fuel t cs = some x) :
 cs.length = P.cellsOf t ∧ ∃ n, ∀ (i : Nat) (f : Field), fs[i]? = some f → ∃ y, DataW.trod enc P w 0 sp held n f.type ((cs.drop f.offset).take (P.cellsOf f.type)) = some y := by
 obtain ⟨xs, n, _, _, h1, h2, h3⟩ := DataW.trod_struct ht h
 refine ⟨h1, n, fun i f hf => ?_⟩
 have := h3 i f hf
 rw [this]
 have hi : i < xs.length := by rw [h2]; exact (Array.getElem?_eq_some_iff.1 hf).1
 exact ⟨_, List.getElem?_eq_getElem hi⟩
theorem a9k {H : Type} {enc : TypeId × Value → H} {w : World} {sp : Nat → Bool} {held : Bool} {n off s : Nat} {ft : TypeId} {cs : List Value} {y : DataW H × List MemPlace} {α : Type} {c : α → Nat → PV} (h : Rd P ft s c) (hy : DataW.trod enc P w 0 sp held n ft ((cs.drop off).take (P.cellsOf ft)) = some y) :
 ∃ a : α, ∀ j, j < s → ∃ v, cs[off + j]? = some v ∧ b5 (ep w) (c a j) v := by
 obtain ⟨h1, a, h2⟩ := h _ enc w sp held n _ y hy
 refine ⟨a, fun j hj => ?_⟩
 obtain ⟨v, h3, h4⟩ := h2 j hj
 refine ⟨v, ?_, h4⟩
 rw [List.getElem?_take] at h3
 split at h3
 · rwa [List.getElem?_drop] at h3
 · cases h3
end
theorem a7e {W W' : World} (hb : Below W.heap.size W W') (may : MemPlace → Prop) : W.keptBut W' may := by
 refine ⟨hb.os, hb.output, fun i hi => ?_⟩
 rw [hb.block i hi]
 cases W.heap[i]? with
 | none => exact rfl
 | some o => cases o <;> first | exact ⟨rfl, rfl, rfl, fun _ _ => rfl⟩ | exact .inr ⟨rfl, rfl⟩ | exact rfl
theorem a7c {W W' : World} (hb : Below W.heap.size W W') (p : MemPlace) (hp : p.block < W.heap.size) : W.sameAt W' p := by
 cases p with
 | cell b off => show W'.cell? _ = W.cell? _; unfold World.cell?; rw [hb.block b hp]
 | map b => exact hb.block b hp
section
variable {H : Type} {enc : TypeId × Value → H} {P : Program}
theorem x5 (hl : laidOutB P = true) {W W' : World} {sp' : Nat → Bool} : ∀ {ts : List TypeId} {vs : List Value} {ds : List (DataW H)} {ps : List MemPlace}, (∀ t ∈ ts, P.readableRec t = true ∧ t < P.types.size) → DataW.TrodAll enc P W 0 (fun _ => true) true ts vs ds ps →
 (∀ p ∈ ps, W.sameAt W' p) → (∀ p ∈ ps, sp' p.block = true) → DataW.TrodAll enc P W' 0 sp' true ts vs ds ps
 | [], [], [], ps, _, h, _, _ => h
 | t :: ts, v :: vs, d :: ds, ps, ht, ⟨p, q, h1, h2, e⟩, hs, hsp => by
  subst e
  refine ⟨p, q, WideElems.Trod_stays hl (ht t (by simp)).1 (ht t (by simp)).2 h1 (fun z hz => hs z (by simp [hz])) (fun z hz => hsp z (by simp [hz])), ?_, rfl⟩
  exact x5 hl (fun t ht' => ht t (by simp [ht'])) h2 (fun z hz => hs z (by simp [hz])) (fun z hz => hsp z (by simp [hz]))
 | [], _ :: _, _, _, _, h, _, _ => h.elim
 | [], [], _ :: _, _, _, h, _, _ => h.elim
 | _ :: _, [], _, _, _, h, _, _ => h.elim
 | _ :: _, _ :: _, [], _, _, h, _, _ => h.elim
theorem apq {f : Func} {s : ChangeSpec} {W W' : World} {args : Array Value} {ds : List (DataW H)} {before : List MemPlace} {tb : TypeId} (hl : laidOutB P = true) (hpar : ∀ t ∈ f.params.toList, P.readableRec t = true ∧ t < P.types.size)
 (hres : f.resultTypes = #[tb]) (htb : P.underlying tb = some .bool) (hv : s.vars = []) (hfn : s.fn H ds = { results := [.lit (.bool true)], args := ds })
 (hW : DataW.Whole enc P f.params.toList s.vars false W args.toList ds [] before) (hb : Below W.heap.size W W') : s.post enc P f false true false false W args (.bool true) W' := by
 have hW' := hW
 have hlt : ∀ p ∈ before, p.block < W.heap.size := fun p hp => hW.lt p hp
 obtain ⟨p, q, hA, hV, rfl, hfz, hnd⟩ := hW
 rw [hv] at hV
 obtain ⟨_, rfl⟩ := trodVars_none hV
 have hfn' : s.fn H (ds ++ []) = { results := [.lit (.bool true)], args := ds } := by rw [List.append_nil]; exact hfn
 have hargs : ∀ sp : Nat → Bool, (∀ z ∈ p ++ [], sp z.block = true) → DataW.TrodAll enc P W' 0 sp true f.params.toList args.toList (s.fn H (ds ++ [])).args p := fun sp hsp => by
  rw [hfn']
  exact x5 hl hpar hA (fun z hz => a7c hb z (hlt z (by simpa using hz))) (fun z hz => hsp z (by simpa using hz))
 have hrs : ∀ (b : Nat) (sp : Nat → Bool) (hd : Bool), DataW.TrodAll enc P W' b sp hd f.resultTypes.toList ((Value.bool true).resultList f.resultTypes.size) (s.fn H (ds ++ [])).results [] := fun b sp hd => by
  rw [hfn', hres]
  exact trodAll_cons_mk (shut_bool htb _) trodAll_mk0
 have hok : ∀ (j : Nat) (t : TypeId) (r : Value), f.resultTypes[j]? = some t → ((Value.bool true).resultList f.resultTypes.size)[j]? = some r → Value.okWide P W' .any 0 t r := ok_one hres rfl (okWide_bool_mk htb _)
 have hvars : ∀ sp : Nat → Bool, (∀ z ∈ p ++ [], sp z.block = true) → DataW.TrodVars enc P W' sp s.vars (s.fn H (ds ++ [])).vars [] := fun sp _ => by
  rw [hfn', hv]; exact rfl
 have hold : ∀ z ∈ p ++ [], (fun b => decide (b < W.heap.size)) z.block = true := fun z hz => by simpa using hlt z hz
 refine ⟨ds, [], p ++ [], [], p, [], hW', hrs _ _ _, hargs _ hold, hvars _ hold, World.keptBut_mono (fun z hz => ⟨hz, ?_⟩) (a7e hb (· ∈ p ++ [])), fun _ => ?_⟩
 · exact Or.inr (by simpa using hz)
 · refine ⟨hok, _, _, ([] ++ p) ++ [], ⟨[] ++ p, [], trodAll_append (hargs _ (fun _ _ => rfl)) (hrs _ _ _), hvars _ (fun _ _ => rfl), rfl, ?_, ?_⟩, ?_⟩
   · intro b off hp
     have hp' : MemPlace.cell b off ∈ p ++ [] := by simpa using hp
     have := hfz b off hp'
     unfold World.frozen? at this ⊢
     rw [hb.block b (hlt _ hp')]
     exact this
   · intro ha; cases ha
   · intro z hz _
     simpa using hz
end
theorem aal {P : Program} {W : World} {r : Reach} {b : Nat} {t e : TypeId} {v : Value} (ht : P.underlying t = some (.slice e)) (h : Value.okWide P W r b t v) : v.cells.toList = [v] := by
 unfold Value.okWide at h
 rw [ht] at h
 unfold Cell.okWide at h
 rw [ht] at h
 cases v <;> first | rfl | (simp [Cell.ok, ht] at h)
theorem ajl {P : Program} {f : FuncId} {args : List PC} {us : List Value} {W : World} {R : Ending → World → Prop} (ht : lx (ep W)) (h : aj P f args (aq [.one (.raw (.bool true))])) (hr : c6 (ep W) args us) (hR : ∀ W', Below W.heap.size W W' → R (.returned (.bool true)) W') : Calls P f us.toArray W R := by
 refine (h W (ep W) us ht (fun _ _ hh => hh) hr).mono ?_
 rintro e w' ⟨v, imm', rfl, hv, _, _, hb⟩
 obtain ⟨rfl, _⟩ := hv
 exact hR w' hb
end Go.Hx
end
