/- A part of the proof: Ch10 X14 Ch11 Ch12 Ch13 X15 Ch14 Ch17 X20 Ch18. -/
import Derived.Test.YtidophngianjiaaGreatDoor10x17
import Derived.Test.YtidophngianjiaaGreatDoor10x21
import Derived.Test.YtidophngianjiaaGreatDoor10x29
set_option linter.all false
section
namespace Go.Hx
def cg (n : Int) : Rw := (List.range n.toNat).map fun (i : Nat) => (i : Int)
theorem x3 (n : Int) : (cg n).length = n.toNat := by unfold cg; simp
theorem aq7 {n : Int} {k : Nat} (h : k < n.toNat) : CoP (.raw (.int .i64 (k : Int))) (lf zC (cg n) k 0) := by
 refine CoP.of_eq ?_
 show _ = PV.raw (.int .i64 ((cg n).getD k default))
 unfold cg
 rw [List.getD_eq_getElem?_getD, List.getElem?_map, List.getElem?_range h]
 rfl
theorem a52 {n : Int} {i : Nat} {p : AS} {k : Nat} (h : k < n.toNat) : (stR n i p).getD k default = stV n i p k := by
 unfold stR
 rw [List.getD_eq_getElem?_getD, List.getElem?_map, List.getElem?_range h]
 rfl
theorem afk {n : Int} {i : Nat} {p : AS} {k : Nat} (h : k < n.toNat) (hh : cn p (k : Int) = true) : CoP (.raw (.int .i64 (k : Int))) (lf zC (stR n i p) k 0) := by
 refine CoP.of_eq ?_
 show _ = PV.raw (.int .i64 ((stR n i p).getD k default))
 rw [a52 h]
 unfold stV
 rw [if_pos hh]
theorem aeo {n : Int} {i : Nat} {p : AS} {k : Nat} (h : k < n.toNat) (hh : cn p (k : Int) = false) : CoP (.raw (.int .i64 (n + (i : Int) * n + (k : Int)))) (lf zC (stR n i p) k 0) := by
 refine CoP.of_eq ?_
 show _ = PV.raw (.int .i64 ((stR n i p).getD k default))
 rw [a52 h]
 unfold stV
 rw [hh, if_neg (by decide)]
theorem aj7 {n : Int} {ps : List AS} {i k : Nat} (hi : i < ps.length) (hk : k = n.toNat) : CoP (.sl k 1 false (lf zC (stR n i (ps.getD i default)))) (lf rC (bg n ps) i 0) := by
 show CoP _ (zl ((bg n ps).getD i default))
 rw [a8t hi]
 exact CoP.sl (by rw [a0w, hk]) (.inl rfl) (fun h => h) fun a j ha hj => CoP.refl _
theorem ahv {s : AS} {n : Int} (h0 : 0 ≤ n) (h1 : n ≤ 16) : sub s (aq n) ↔ s >>> n.toNat = 0 := by
 unfold aq
 rw [Nat.min_eq_left (by omega)]
 exact rz (by omega)
def a0x (l : List Rw) (x : Fd) (a b : Nat) : Bool := j0 (l.getD a default) (l.getD b default) x.lhs && !(l.any fun r => decide (r = da (l.getD a default) (l.getD b default) x.rhs))
theorem aai {a b : Rw} {s : AS} {g : Nat → Nat → PV} {f : Nat → Nat → PV} {e : TypeId} (hf : ∀ i j, f i j = lf zC b i j) : CoO (.arr true 1 e (0 + b.length) (fw 0 g f)) (.arr true 1 e (0 + b.length) (lf zC (jr a b s 0))) := by
 rw [← a8l]
 exact ⟨fun h => h, rfl, rfl, rfl, fun i j _ _ => CoP.of_eq (by simp [fw, hf])⟩
theorem afp {a b : Rw} {s : AS} {k m : Nat} (hk : k = b.length) (hm : m = b.length) : CoC (.one (.sl m 1 false (lf zC (jr a b s k)))) (pZ (da a b s)) := by
 subst hk
 rw [ac0]
 exact ah6 ((lq a b s).trans hm.symm)
end Go.Hx
end
section
namespace Go.Hx
open Go.Proofs
set_option maxRecDepth 100000
theorem ayj : goodFn Tryz.prog 97 := ⟨Tryz.f97, Tryz.func97, by kernel_rfl, by kernel_rfl⟩
theorem axm (n : Int) (h16 : n ≤ 16) : ah Tryz.prog 97 [pI n] (ap [pZ (cg n)]) := by
 refine ag (nt := 15) af Tryz.func97 rfl rfl l9 ?_; refine sx7 ?_; refine qy ?_; refine a6 ?_; refine sx7 ?_; refine qy ?_; refine a6 ?_
 refine dp 3 900 true 1 3 (lf zC (cg n)) (by decide) rfl (CoP.sl rfl (.inr rfl) (fun h => h) (fun i j hi _ => absurd hi (Nat.not_lt_zero i))) (.inr rfl) rfl ?_; refine a7 ?_; refine sx7 ?_; refine qy ?_
 refine a6 ?_; refine ae ?_
 refine ai (ι := Nat) ⟨[(0, some _)], []⟩ ⟨⟨c9, trivial⟩, trivial⟩ (fun i => ⟨[(3, some (.v (.one (.ref 900 i)))), (4, some (vI i))], [(900, some (.arr true 1 3 i (lf zC (cg n))))]⟩) (fun i => i ≤ n.toNat) (fun i => n.toNat - i) (0) (Nat.zero_le _) ⟨⟨zy, zy, trivial⟩, ⟨u9, trivial⟩⟩ ?_
 rintro i hi
 refine a7 ?_; refine sx7 ?_; (iterate 3 refine qy ?_); refine a6 ?_; refine a8 _ rfl (fun r0 => ?_) (fun r0 => ?_)
 ·
  have h0 := of_decide_eq_true r0
  try simp only [ty] at h0
  refine aa ?_; refine a7 ?_; refine ae ?_; refine gy ?_; (iterate 2 refine qy ?_); refine m9 0 ?_; refine ra 1 true rfl rfl rfl rfl rfl rfl ?_; refine qy ?_; refine a6 ?_; refine gy ?_; (iterate 3 refine qy ?_)
  refine a6 ?_; refine ⟨i + 1, ?_, ?_, ?_⟩
  · show i + 1 ≤ _; omega
  · first | omega | (dsimp only; omega)
  · exact ⟨⟨zy, zy, c9, trivial⟩, ⟨⟨_, rfl, (lz (fun h => h) (fun j hj => by obtain rfl : j = 0 := (by omega); exact aq7 (by omega)))⟩, trivial⟩⟩
 ·
  have h0 := of_decide_eq_false r0
  try simp only [ty] at h0
  refine ak ?_; refine a7 ?_; refine br 3 rfl rfl rfl ?_; refine gy ?_; (iterate 2 refine qy ?_); refine a6 ?_
  exact hx8 rfl rfl rfl (⟨CoC.one (CoP.sl (by rw [x3]; omega) (.inl rfl) (fun h => h) fun a j ha hj => CoP.refl _), trivial⟩)
theorem avf : goodFn Tryz.prog 144 := ⟨Tryz.f144, Tryz.func144, by kernel_rfl, by kernel_rfl⟩
theorem ax2 (n : Int) (ps : List AS) : ah Tryz.prog 144 [pI n, pP (asl ps)] (ap [pT (fc n ps).1 (fc n ps).2.1, pI (fc n ps).2.2]) := by
 refine ag (nt := 68) af Tryz.func144 rfl rfl l9 ?_; refine sx7 ?_; refine m9 0 ?_; refine qy ?_; refine a6 ?_; refine a7 ?_; refine sx7 ?_; (iterate 3 refine qy ?_)
 refine bc rfl rfl (fun r0 => ?_) (fun r0 => ?_)
 ·
  have h0 := of_decide_eq_true r0
  try simp only [ty] at h0
  (iterate 2 refine k9 (gtf r0) ?_); refine rq rfl rfl rfl rfl rfl ?_ (hp := r0); refine a6 ?_; refine a8 _ rfl (fun _ => ?_) (fun e => by cases e); refine sx7 ?_; refine qy ?_; refine s9 ?_; refine qy ?_
  refine a6 ?_; refine am ?_; refine ⟨.inr rfl, ?_⟩
  have he := xk (n := n) (ps := ps) (by omega)
  exact f9 rfl rfl (by rw [he]; exact ⟨CoC.agg ⟨CoP.refl _, bs, trivial⟩, CoC.refl _, trivial⟩)
 ·
  have h0 := of_decide_eq_false r0
  try simp only [ty] at h0
  (iterate 2 refine qy ?_ (hg := (gff r0))); refine qy ?_; refine a6 ?_; refine a8 _ rfl (fun r1 => ?_) (fun r1 => ?_)
  ·
   have h1 := r1
   have h1 := bn r0 h1
   have h1 := of_decide_eq_true h1
   try simp only [ty] at h1
   refine sx7 ?_; refine qy ?_; refine s9 ?_; refine qy ?_; refine a6 ?_; refine am ?_; refine ⟨.inr rfl, ?_⟩
   have he := xk (n := n) (ps := ps) (by omega)
   exact f9 rfl rfl (by rw [he]; exact ⟨CoC.agg ⟨CoP.refl _, bs, trivial⟩, CoC.refl _, trivial⟩)
  ·
   have h1 := r1
   have h1 := bn r0 h1
   have h1 := of_decide_eq_false h1
   try simp only [ty] at h1
   refine aa ?_; refine a7 ?_; refine sx7 ?_; (iterate 3 refine qy ?_); refine a6 ?_; refine a8 _ rfl (fun r2 => ?_) (fun r2 => ?_)
   ·
    have h2 := of_decide_eq_true r2
    try simp only [ty] at h2
    refine sx7 ?_; refine qy ?_; refine s9 ?_; refine qy ?_; refine a6 ?_; refine am ?_; refine ⟨.inr rfl, ?_⟩
    have he := aab (n := n) (ps := ps) (by omega) (by omega)
    exact f9 rfl rfl (by rw [he]; exact ⟨CoC.agg ⟨CoP.refl _, bs, trivial⟩, CoC.refl _, trivial⟩)
   ·
    have h2 := of_decide_eq_false r2
    try simp only [ty] at h2
    refine aa ?_; refine sx7 ?_; refine qy ?_; refine a6 ?_
    refine dp 6 900 true 1 121 (lf rC (bg n ps)) (by decide) rfl (CoP.sl rfl (.inr rfl) (fun h => h) (fun i j hi _ => absurd hi (Nat.not_lt_zero i))) (.inr rfl) rfl ?_; refine a7 ?_; refine sx7 ?_; refine qy ?_
    refine a6 ?_; refine ae ?_
    refine ai (ι := Nat) ⟨[(0, some _), (1, some _), (4, some _)], [(0, some _)]⟩ ⟨⟨c9, c9, c9, trivial⟩, ⟨u9, trivial⟩⟩ (fun i => ⟨[(6, some (.v (.one (.ref 900 i)))), (7, some (vI i))], [(900, some (.arr true 1 121 i (lf rC (bg n ps))))]⟩) (fun i => i ≤ ps.length ∧ ∀ j, j < i → (ps.getD j default) >>> n.toNat = 0) (fun i => ps.length - i) (0) (⟨Nat.zero_le _, bu⟩) ⟨⟨zy, zy, trivial⟩, ⟨u9, trivial⟩⟩ ?_
    rintro i ⟨hi, hI⟩
    refine a7 ?_; refine sx7 ?_; (iterate 4 refine qy ?_); refine a6 ?_; refine a8 _ rfl (fun r3 => ?_) (fun r3 => ?_)
    ·
     have h3 := of_decide_eq_true r3
     try simp only [ty] at h3
     have hin := azt (n := n) (i := i) (by omega) (by omega) (by omega)
     refine aa ?_; refine a7 ?_; refine ae ?_; (iterate 2 refine a7 ?_); refine b7 (E := bm) af ar [0, 1, 2, 3, 4, 5, 6, 7] ?_; (iterate 5 refine qy ?_)
     refine rc rfl rfl rfl rfl rfl rfl zd (a0s n) (CoL.refl _) rfl rfl ?_; refine rc rfl rfl rfl rfl rfl rfl u7 (y3 _ _) (CoL.refl _) rfl rfl ?_; refine qy ?_; refine a6 ?_; refine ⟨by kernel_rfl, ?_⟩
     refine a8 _ rfl (fun r4 => ?_) (fun r4 => ?_)
     ·
      have h4 := r4
      have h4 := ax h4
      refine sx7 ?_; refine qy ?_; refine s9 ?_; refine qy ?_; refine a6 ?_; refine am ?_; refine ⟨.inr rfl, ?_⟩
      have he := ab2 (n := n) (ps := ps) (i := i) (by omega) (by omega) (by omega) (fun e => by have := (ahv (n := n) (by omega) (by omega)).2 e; simp_all)
      exact f9 rfl rfl (by rw [he]; exact ⟨CoC.agg ⟨CoP.refl _, bs, trivial⟩, CoC.refl _, trivial⟩)
     ·
      have h4 := r4
      have h4 := aw h4
      refine aa ?_; refine sx7 ?_; refine qy ?_; refine a6 ?_
      refine dp 8 901 true 1 3 (lf zC (stR n i (ps.getD i default))) (by decide) rfl (CoP.sl rfl (.inr rfl) (fun h => h) (fun i j hi _ => absurd hi (Nat.not_lt_zero i))) (.inr rfl) rfl ?_; refine a7 ?_; refine sx7 ?_
      refine qy ?_; refine a6 ?_; refine ae ?_
      refine ai (ι := Nat) ⟨[(0, some _), (1, some _), (4, some _), (6, some _), (7, some _)], [(900, some _), (0, some _)]⟩ ⟨⟨c9, c9, c9, c9, c9, trivial⟩, ⟨u9, u9, trivial⟩⟩ (fun k => ⟨[(8, some (.v (.one (.ref 901 k)))), (9, some (vI k))], [(901, some (.arr true 1 3 k (lf zC (stR n i (ps.getD i default)))))]⟩) (fun k => k ≤ n.toNat) (fun k => n.toNat - k) (0) (Nat.zero_le _) ⟨⟨zy, zy, trivial⟩, ⟨u9, trivial⟩⟩ ?_
      rintro k hk
      refine a7 ?_; refine sx7 ?_; (iterate 3 refine qy ?_); refine a6 ?_; refine a8 _ rfl (fun r5 => ?_) (fun r5 => ?_)
      ·
       have h5 := of_decide_eq_true r5
       try simp only [ty] at h5
       refine aa ?_; refine a7 ?_; refine ae ?_; refine sx7 ?_; (iterate 5 refine qy ?_); refine rc rfl rfl rfl rfl rfl rfl sb (a6x (ps.getD i default) (k : Int)) (CoL.refl _) rfl rfl ?_; refine a6 ?_
       refine a8 _ rfl (fun r6 => ?_) (fun r6 => ?_)
       ·
        have h6 := r6
        refine gy ?_; (iterate 2 refine qy ?_); refine m9 1 ?_; refine ra 2 true rfl rfl rfl rfl rfl rfl ?_; refine qy ?_; refine a6 ?_; refine gy ?_; (iterate 3 refine qy ?_); refine a6 ?_
        refine ⟨k + 1, ?_, ?_, ?_⟩
        · show k + 1 ≤ _; omega
        · first | omega | (dsimp only; omega)
        · exact ⟨⟨zy, zy, c9, c9, c9, c9, c9, trivial⟩, ⟨⟨_, rfl, (by first | exact (lz (fun h => h) (fun j hj => by obtain rfl : j = 0 := (by omega); exact afk (by omega) (by assumption))) | exact (lz (fun h => h) (fun j hj => by obtain rfl : j = 0 := (by omega); exact aeo (by omega) (by assumption))))⟩, u9, u9, trivial⟩⟩
       ·
        have h6 := r6
        refine gy ?_; (iterate 8 refine qy ?_); refine m9 3 ?_; refine ra 4 true rfl rfl rfl rfl rfl rfl ?_; refine qy ?_; refine a6 ?_; refine gy ?_; (iterate 3 refine qy ?_); refine a6 ?_
        refine ⟨k + 1, ?_, ?_, ?_⟩
        · show k + 1 ≤ _; omega
        · first | omega | (dsimp only; omega)
        · exact ⟨⟨zy, zy, c9, c9, c9, c9, c9, trivial⟩, ⟨⟨_, rfl, (by first | exact (lz (fun h => h) (fun j hj => by obtain rfl : j = 0 := (by omega); exact afk (by omega) (by assumption))) | exact (lz (fun h => h) (fun j hj => by obtain rfl : j = 0 := (by omega); exact aeo (by omega) (by assumption))))⟩, u9, u9, trivial⟩⟩
      ·
       have h5 := of_decide_eq_false r5
       try simp only [ty] at h5
       refine ak ?_; refine br 8 rfl rfl rfl ?_; refine gy ?_; (iterate 2 refine qy ?_); refine m9 5 ?_; refine ra 6 true rfl rfl rfl rfl rfl rfl ?_; refine qy ?_; refine a6 ?_; refine gy ?_
       (iterate 3 refine qy ?_); refine a6 ?_; refine ⟨i + 1, ?_, ?_, ?_⟩
       · exact ⟨by show i + 1 ≤ _; omega, bf hI ((ahv (by omega) (by omega)).1 (by first | assumption | exact of_decide_eq_true (by assumption)))⟩
       · first | omega | (dsimp only; omega)
       · exact ⟨⟨zy, zy, c9, c9, c9, trivial⟩, ⟨⟨_, rfl, (lz (fun h => h) (fun j hj => by obtain rfl : j = 0 := (by omega); exact aj7 (by omega) (by omega)))⟩, u9, trivial⟩⟩
    ·
     have h3 := of_decide_eq_false r3
     try simp only [ty] at h3
     obtain rfl : i = ps.length := by omega
     refine ak ?_; refine a7 ?_; refine br 6 rfl rfl rfl ?_; refine gy ?_; (iterate 2 refine qy ?_)
     refine rc rfl rfl rfl rfl rfl rfl a6v (a41 n (bg n ps) (by rw [md]; omega)) (⟨CoC.refl _, CoC.one (CoP.sl (by rw [md]) (.inl rfl) (fun h => h) fun a j ha hj => CoP.refl _), trivial⟩) rfl rfl ?_
     refine s9 ?_; refine qy ?_; refine a6 ?_; refine am ?_; refine ⟨.inr rfl, ?_⟩
     have he := a32 (n := n) (ps := ps) (by omega) (by omega) (fun j hj => hI j (by omega))
     exact f9 rfl rfl (by rw [he]; exact CoL.refl _)
end Go.Hx
end
section
namespace Go.Hx
def Wel (n : Int) (l : List Rw) : Prop := ∀ r, r ∈ l → r.length = n.toNat ∧ ∀ z, z ∈ r → 0 ≤ z
theorem vt {l : List Rw} {i : Nat} (h : i < l.length) : l.getD i default ∈ l := by
 rw [List.getD_eq_getElem?_getD, List.getElem?_eq_getElem h]
 exact List.getElem_mem h
theorem s5 {n : Int} {l : List Rw} (h : tok n l = true) : Wel n l := by
 obtain ⟨h0, h1, h2, h3⟩ := gn h
 unfold tok at h
 rw [Bool.and_eq_true, decide_eq_true_iff, decide_eq_true_iff] at h
 rintro r hr
 obtain ⟨i, hi, rfl⟩ := List.getElem_of_mem hr
 have e : l.getD i default = l[i] := by rw [List.getD_eq_getElem?_getD, List.getElem?_eq_getElem hi]; rfl
 rw [← e]
 refine ⟨h3 i hi, fun z hz => ?_⟩
 have := h.2 i hi
 unfold l7 at this
 rw [Bool.and_eq_true, Bool.and_eq_true] at this
 have h4 := this.1.2
 rw [Bool.not_eq_true', List.any_eq_false] at h4
 have := h4 z hz
 rw [decide_eq_true_iff] at this
 omega
theorem au1 {n : Int} {l : List Rw} (h : tok n l = true) : lr l := by
 unfold tok at h
 rw [Bool.and_eq_true, decide_eq_true_iff, decide_eq_true_iff] at h
 have hs : ∀ d i : Nat, i + d + 1 < l.length → ltZ (l.getD i default) (l.getD (i + d + 1) default) = true := by
  intro d
  induction d with
  | zero =>
   intro i hi
   have := h.2 (i + 1) hi
   unfold l7 at this
   rw [Bool.and_eq_true, Bool.or_eq_true, decide_eq_true_iff] at this
   rcases this.2 with h5 | h5
   · omega
   · exact h5
  | succ d ih =>
   intro i hi
   have h1 := ih i (by omega)
   have := h.2 (i + d + 1 + 1) (by omega)
   unfold l7 at this
   rw [Bool.and_eq_true, Bool.or_eq_true, decide_eq_true_iff] at this
   rcases this.2 with h5 | h5
   · omega
   · exact io h1 h5
 unfold lr
 rw [List.pairwise_iff_getElem]
 intro i j hi hj hij
 obtain ⟨d, rfl⟩ : ∃ d, j = i + d + 1 := ⟨j - i - 1, by omega⟩
 have := hs d i hj
 rwa [List.getD_eq_getElem?_getD, List.getElem?_eq_getElem hi, List.getD_eq_getElem?_getD, List.getElem?_eq_getElem hj] at this
theorem azl {n : Int} {l : List Rw} (h0 : 0 ≤ n) (h1 : n ≤ 16) (h2 : l.length ≤ 256) (hw : Wel n l) (ho : lr l) : tok n l = true := by
 refine ahi h0 h1 h2 fun i hi => ?_
 obtain ⟨h3, h4⟩ := hw _ (vt hi)
 refine a0l (by omega) ?_ ?_
 · rw [List.any_eq_false]
   intro z hz
   have := h4 z hz
   rw [decide_eq_true_iff]
   omega
 · rcases Nat.eq_zero_or_pos i with h | h
   · exact .inl h
   · right
     have := List.pairwise_iff_getElem.1 ho (i - 1) i (by omega) hi (by omega)
     rw [List.getD_eq_getElem?_getD, List.getElem?_eq_getElem (by omega), List.getD_eq_getElem?_getD, List.getElem?_eq_getElem hi]
     exact this
theorem z7 {n : Int} {l : List Rw} (h0 : 0 ≤ n) (h1 : n ≤ 16) (h2 : (b4 l).length ≤ 256) (hw : Wel n l) : tok n (b4 l) = true :=
 azl h0 h1 h2 (fun r hr => hw r (fg.1 hr)) (gf l)
def inV (l : List Rw) (M : Nat → Nat → Int) (z : Int) : Prop := ∃ i r, i < l.length ∧ r < (l.getD i default).length ∧ M i r = z
theorem afd {l : List Rw} {z : Int} : inV l (bz l) z ↔ ∃ r, r ∈ l ∧ z ∈ r := by
 constructor
 · rintro ⟨i, r, hi, hr, rfl⟩
   refine ⟨_, vt hi, ?_⟩
   show (l.getD i default).getD r default ∈ _
   rw [List.getD_eq_getElem?_getD (l := l.getD i default), List.getElem?_eq_getElem hr]
   exact List.getElem_mem hr
 · rintro ⟨r, hr, hz⟩
   obtain ⟨i, hi, rfl⟩ := List.getElem_of_mem hr
   obtain ⟨k, hk, rfl⟩ := List.getElem_of_mem hz
   have e : l.getD i default = l[i] := by rw [List.getD_eq_getElem?_getD, List.getElem?_eq_getElem hi]; rfl
   refine ⟨i, k, hi, by rw [e]; exact hk, ?_⟩
   show (l.getD i default).getD k default = _
   rw [e, List.getD_eq_getElem?_getD, List.getElem?_eq_getElem hk]
   rfl
theorem a31 {l : List Rw} {M : Nat → Nat → Int} {z : Int} : (∃ r, r ∈ d9 l M ∧ z ∈ r) ↔ inV l M z := by
 constructor
 · rintro ⟨r, hr, hz⟩
   unfold d9 at hr
   rw [List.mem_map] at hr
   obtain ⟨i, hi, rfl⟩ := hr
   rw [List.mem_map] at hz
   obtain ⟨k, hk, rfl⟩ := hz
   exact ⟨i, k, List.mem_range.1 hi, List.mem_range.1 hk, rfl⟩
 · rintro ⟨i, k, hi, hk, rfl⟩
   refine ⟨(List.range (l.getD i default).length).map (M i), ?_, List.mem_map.2 ⟨k, List.mem_range.2 hk, rfl⟩⟩
   unfold d9
   exact List.mem_map.2 ⟨i, List.mem_range.2 hi, rfl⟩
section
variable {l : List Rw} {a b : Nat} (ha : a < l.length) (hb : b < l.length)
theorem aht (x y : Int) : loI x y = x ∨ loI x y = y := by unfold loI; split <;> simp
theorem arf (x y : Int) : hiI x y = x ∨ hiI x y = y := by unfold hiI; split <;> simp
include ha hb in
theorem b25 {M : Nat → Nat → Int} {j : Nat} (hja : j < (l.getD a default).length) (hjb : j < (l.getD b default).length) {z : Int} (h : inV l (eqM M a b j) z) : inV l M z := by
 obtain ⟨i, r, hi, hr, he⟩ := h
 unfold eqM at he
 split at he
 · rcases aht (M a j) (M b j) with h | h
   · exact ⟨a, j, ha, hja, by rw [← he, h]⟩
   · exact ⟨b, j, hb, hjb, by rw [← he, h]⟩
 · exact ⟨i, r, hi, hr, he⟩
include ha hb in
theorem aa7 : ∀ {js : List Nat} {M : Nat → Nat → Int}, (∀ j, j ∈ js → j < (l.getD a default).length ∧ j < (l.getD b default).length) → ∀ {z : Int}, inV l (eqMs M a b js) z → inV l M z
 | [], _, _, _, h => h
 | j :: js, M, hj, z, h => b25 ha hb (hj j (by simp)).1 (hj j (by simp)).2 (aa7 (js := js) (M := eqM M a b j) (fun k hk => hj k (by simp [hk])) h)
include ha hb in
theorem a96 : ∀ {js : List Nat} {M : Nat → Nat → Int}, (∀ j, j ∈ js → j < (l.getD a default).length ∧ j < (l.getD b default).length) → (∃ j, j ∈ js ∧ ¬ M a j = M b j) → ∃ z, inV l M z ∧ ¬ inV l (eqMs M a b js) z
 | [], _, _, ⟨_, h, _⟩ => by simp at h
 | j :: js, M, hj, ⟨k, hk, hne⟩ => by
  by_cases e : M a j = M b j
  · have e2 : eqMs M a b (j :: js) = eqMs M a b js := by
     show eqMs (eqM M a b j) a b js = _
     rw [pi e]
    rw [e2]
    refine a96 (fun k hk => hj k (by simp [hk])) ⟨k, ?_, hne⟩
    rcases List.mem_cons.1 hk with h | h
    · subst h; exact absurd e hne
    · exact h
  · refine ⟨hiI (M a j) (M b j), ?_, fun h => ?_⟩
    · rcases arf (M a j) (M b j) with h | h
      · exact ⟨a, j, ha, (hj j (by simp)).1, h.symm⟩
      · exact ⟨b, j, hb, (hj j (by simp)).2, h.symm⟩
    · obtain ⟨i, r, hi, hr, he⟩ := aa7 ha hb (fun k hk => hj k (by simp [hk])) (show inV l (eqMs (eqM M a b j) a b js) _ from h)
      unfold eqM at he
      split at he
      · unfold hiI loI at he
        split at he <;> split at he <;> omega
      · rename_i h2
        exact h2 he
end
def a6f (Z : List Int) (l : List Rw) : Nat := Z.countP fun z => l.any fun r => decide (z ∈ r)
def muC (Z : List Int) (l : List Rw) : Nat := a6f Z l * 300 + (300 - l.length)
def Cov (Z : List Int) (l : List Rw) : Prop := ∀ r, r ∈ l → ∀ z, z ∈ r → z ∈ Z
theorem s8 {l : List Rw} {z : Int} : (l.any fun r => decide (z ∈ r)) = true ↔ ∃ r, r ∈ l ∧ z ∈ r := by
 rw [List.any_eq_true]
 exact ⟨fun ⟨r, h, h2⟩ => ⟨r, h, of_decide_eq_true h2⟩, fun ⟨r, h, h2⟩ => ⟨r, h, decide_eq_true h2⟩⟩
theorem countP_lt' {p q : Int → Bool} : ∀ {Z : List Int}, (∀ z, p z = true → q z = true) → (∃ z, z ∈ Z ∧ q z = true ∧ p z = false) → Z.countP p < Z.countP q
 | [], _, ⟨_, h, _⟩ => by simp at h
 | x :: Z, h, ⟨z, hz, hq, hp⟩ => by
  have hm : Z.countP p ≤ Z.countP q := List.countP_mono_left fun z _ => h z
  rw [List.countP_cons, List.countP_cons]
  rcases List.mem_cons.1 hz with rfl | hz
  · rw [hq, hp]
    simp only [if_true, Bool.false_eq_true, if_false]
    omega
  · have := countP_lt' (Z := Z) h ⟨z, hz, hq, hp⟩
    by_cases e : p x = true
    · rw [e, h x e]; omega
    · rw [if_neg e]; omega
theorem ats {Z : List Int} {l l' : List Rw} (h : ∀ z, (∃ r, r ∈ l' ∧ z ∈ r) → ∃ r, r ∈ l ∧ z ∈ r) (h2 : ∃ z, z ∈ Z ∧ (∃ r, r ∈ l ∧ z ∈ r) ∧ ¬ ∃ r, r ∈ l' ∧ z ∈ r) : a6f Z l' < a6f Z l := by
 refine countP_lt' (fun z hz => s8.2 (h z (s8.1 hz))) ?_
 obtain ⟨z, h3, h4, h5⟩ := h2
 exact ⟨z, h3, s8.2 h4, by rw [Bool.eq_false_iff]; exact fun e => h5 (s8.1 e)⟩
theorem atx {Z : List Int} {l l' : List Rw} (h : ∀ z, (∃ r, r ∈ l' ∧ z ∈ r) → ∃ r, r ∈ l ∧ z ∈ r) : a6f Z l' ≤ a6f Z l :=
 List.countP_mono_left fun z _ hz => s8.2 (h z (s8.1 hz))
end Go.Hx
end
section
namespace Go.Hx
theorem adj {r : Rw} : ∀ {l : List Rw}, r ∉ l → (i6 r l).length = l.length + 1
 | [], _ => rfl
 | y :: l, h => by
  unfold i6
  have h1 : ¬ r = y := fun e => h (by rw [e]; simp)
  have h2 := adj (l := l) (r := r) fun e => h (by simp [e])
  rw [if_neg h1]
  split
  · simp
  · simp only [List.length_cons]; omega
theorem alr {l : List Rw} {r : Rw} (ho : lr l) : b4 (l ++ [r]) = i6 r l := by
 have e : l = b4 l := abj ho fun _ => Iff.rfl
 have : b4 (l ++ [r]) = i6 r (b4 l) := by
  unfold b4
  rw [List.foldl_append]
  rfl
 rw [this, ← e]
section
variable {n : Int} {l : List Rw} {a b : Nat} {x : Fd}
abbrev fdL (l : List Rw) (a b : Nat) (x : Fd) : List Rw := b4 (d9 l (eqMs (bz l) a b (b5 x.rhs)))
theorem ah1 (hT : tok n l = true) (hu : inU n x = true) (ha : a < l.length) (hb : b < l.length) (hs : dv l x a b = true) :
 fdE n l a b x = (n, fdL l a b x, 0) ∧ tok n (fdL l a b x) = true ∧ (∀ z, (∃ r, r ∈ fdL l a b x ∧ z ∈ r) → ∃ r, r ∈ l ∧ z ∈ r) ∧ ∀ Z, Cov Z l → muC Z (fdL l a b x) < muC Z l := by
 obtain ⟨h0, h1, h2, h3⟩ := gn hT
 have hw := s5 hT
 unfold dv at hs
 rw [Bool.and_eq_true, Bool.not_eq_true'] at hs
 obtain ⟨hl, hr⟩ := hs
 have hj : ∀ j, j ∈ b5 x.rhs → j < (l.getD a default).length ∧ j < (l.getD b default).length := fun j hj => by
  have := a1w h0 h1 hu hj
  exact ⟨by rw [h3 a ha]; exact this, by rw [h3 b hb]; exact this⟩
 have hV : ∀ z, (∃ r, r ∈ fdL l a b x ∧ z ∈ r) → ∃ r, r ∈ l ∧ z ∈ r := fun z ⟨r, hr, hz⟩ => afd.1 (aa7 ha hb hj (a31.1 ⟨r, fg.1 hr, hz⟩))
 have hlen : (fdL l a b x).length ≤ l.length := Nat.le_trans (ut _) (Nat.le_of_eq (ji _ _))
 refine ⟨if_pos hl, z7 h0 h1 (Nat.le_trans hlen h2) (fun r hr => ⟨?_, fun z hz => ?_⟩), hV, fun Z hZ => ?_⟩
 · unfold d9 at hr
   rw [List.mem_map] at hr
   obtain ⟨i, hi, rfl⟩ := hr
   rw [List.length_map, List.length_range]
   exact h3 i (List.mem_range.1 hi)
 · obtain ⟨r2, h5, h6⟩ := hV z ⟨r, fg.2 hr, hz⟩
   exact (hw r2 h5).2 z h6
 · have hne : ∃ j, j ∈ b5 x.rhs ∧ ¬ bz l a j = bz l b j := by
    apply Classical.byContradiction
    intro hno
    rw [wg] at hr
    · cases hr
    · intro i hi hh
      apply Classical.byContradiction
      intro e
      have hi2 : i < 32 := by
       have := h3 a ha
       omega
      rw [ff hi2] at hh
      exact hno ⟨i, ip.2 ⟨hi2, hh⟩, e⟩
   obtain ⟨z, hz1, hz2⟩ := a96 ha hb hj hne
   have hz3 := afd.1 hz1
   have := ats (Z := Z) hV ⟨z, by obtain ⟨r, h7, h8⟩ := hz3; exact hZ r h7 z h8, hz3, fun ⟨r, h7, h8⟩ => hz2 (a31.1 ⟨r, fg.1 h7, h8⟩)⟩
   unfold muC
   omega
abbrev mvL (l : List Rw) (a b : Nat) (x : Fd) : List Rw := b4 (l ++ [da (l.getD a default) (l.getD b default) (x.lhs ||| x.rhs)])
theorem b1d (hT : tok n l = true) (ha : a < l.length) (hb : b < l.length) (hs : ef l x a b = true) :
 mvE n l a b x = (0, [], 3) ∨ (mvE n l a b x = (n, mvL l a b x, 0) ∧ tok n (mvL l a b x) = true ∧ (∀ z, (∃ r, r ∈ mvL l a b x ∧ z ∈ r) → ∃ r, r ∈ l ∧ z ∈ r) ∧ ∀ Z, Cov Z l → muC Z (mvL l a b x) < muC Z l) := by
 obtain ⟨h0, h1, h2, h3⟩ := gn hT
 have hw := s5 hT
 unfold ef at hs
 rw [Bool.and_eq_true, Bool.not_eq_true'] at hs
 obtain ⟨hl, hr⟩ := hs
 have hno := afb hr
 have hE : mvE n l a b x = pf n l (da (l.getD a default) (l.getD b default) (x.lhs ||| x.rhs)) := if_pos hl
 by_cases hbig : 256 < (mvL l a b x).length
 · left
   rw [hE]
   exact if_pos hbig
 · right
   have hmem : ∀ z, z ∈ da (l.getD a default) (l.getD b default) (x.lhs ||| x.rhs) → z ∈ l.getD a default ∨ z ∈ l.getD b default := fun z hz => by
    unfold da at hz
    rw [List.mem_map] at hz
    obtain ⟨i, hi, rfl⟩ := hz
    have hi := List.mem_range.1 hi
    have hi2 : i < (l.getD a default).length := by rw [h3 a ha, ← h3 b hb]; exact hi
    split
    · left
      rw [List.getD_eq_getElem?_getD (l := l.getD a default), List.getElem?_eq_getElem hi2]
      exact List.getElem_mem hi2
    · right
      rw [List.getD_eq_getElem?_getD (l := l.getD b default), List.getElem?_eq_getElem hi]
      exact List.getElem_mem hi
   have hV : ∀ z, (∃ r, r ∈ mvL l a b x ∧ z ∈ r) → ∃ r, r ∈ l ∧ z ∈ r := fun z ⟨r, hr, hz⟩ => by
    rcases List.mem_append.1 (fg.1 hr) with h | h
    · exact ⟨r, h, hz⟩
    · rw [List.mem_singleton] at h
      subst h
      rcases hmem z hz with h | h
      · exact ⟨_, vt ha, h⟩
      · exact ⟨_, vt hb, h⟩
   refine ⟨by rw [hE]; exact if_neg hbig, z7 h0 h1 (Nat.le_of_not_lt fun e => hbig e) (fun r hr => ⟨?_, fun z hz => ?_⟩), hV, fun Z hZ => ?_⟩
   · rcases List.mem_append.1 hr with h | h
     · exact (hw r h).1
     · rw [List.mem_singleton] at h
       subst h
       rw [lq]
       exact h3 b hb
   · obtain ⟨r2, h5, h6⟩ := hV z ⟨r, fg.2 hr, hz⟩
     exact (hw r2 h5).2 z h6
   · have e : (mvL l a b x).length = l.length + 1 := by
      show (b4 _).length = _
      rw [alr (au1 hT), adj hno]
     have := atx (Z := Z) hV
     unfold muC
     omega
end
theorem amr {α : Type} {f : Nat → Option α} : ∀ {n : Nat} {x : α}, (List.range n).findSome? f = some x → ∃ k, k < n ∧ f k = some x := fun {n x} h => by
 obtain ⟨k, hk, e⟩ := List.exists_of_findSome?_eq_some h
 exact ⟨k, List.mem_range.1 hk, e⟩
theorem yk {P : Nat → Nat → Nat → Bool} {I L i a b : Nat} (h : ek P I L = some (i, a, b)) : i < I ∧ a < L ∧ b < L ∧ P i a b = true := by
 obtain ⟨i', hi, h⟩ := amr h
 obtain ⟨a', ha, h⟩ := amr h
 rw [Option.map_eq_some_iff] at h
 obtain ⟨b', hb, e⟩ := h
 simp only [Prod.mk.injEq] at e
 obtain ⟨rfl, rfl, rfl⟩ := e
 exact ⟨hi, ha, List.mem_range.1 (List.mem_of_find?_eq_some hb), by simpa using List.find?_some hb⟩
def vi (l : List Rw) (p m : List Fd) (s : St) : Prop := s.2.2.1 < l.length ∧ s.2.2.2 < l.length ∧ ((s.1 = false ∧ s.2.1 < p.length ∧ dv l (p.getD s.2.1 default) s.2.2.1 s.2.2.2 = true) ∨ (s.1 = true ∧ s.2.1 < m.length ∧ ef l (m.getD s.2.1 default) s.2.2.1 s.2.2.2 = true))
theorem a1a {l : List Rw} {p m : List Fd} {s : St} (h : dm l p m = some s) : vi l p m s := by
 unfold dm at h
 split at h
 · rename_i x e
   simp only [Option.some.injEq] at h
   subst h
   obtain ⟨i, a, b⟩ := x
   obtain ⟨h1, h2, h3, h4⟩ := yk e
   exact ⟨h2, h3, .inl ⟨rfl, h1, h4⟩⟩
 · rw [Option.map_eq_some_iff] at h
   obtain ⟨⟨i, a, b⟩, e, rfl⟩ := h
   obtain ⟨h1, h2, h3, h4⟩ := yk e
   exact ⟨h2, h3, .inr ⟨rfl, h1, h4⟩⟩
def dj (n : Int) (l : List Rw) (p m : List Fd) (s : St) : Int × List Rw × Int := if s.1 = true then mvE n l s.2.2.1 s.2.2.2 (m.getD s.2.1 default) else fdE n l s.2.2.1 s.2.2.2 (p.getD s.2.1 default)
theorem ab5 {n : Int} {l : List Rw} {p m : List Fd} {s : St} (hT : tok n l = true) (hp : p.all (inU n) = true) (h : vi l p m s) :
 dj n l p m s = (0, [], 3) ∨ ∃ l', dj n l p m s = (n, l', 0) ∧ tok n l' = true ∧ (∀ Z, Cov Z l → Cov Z l' ∧ muC Z l' < muC Z l) := by
 obtain ⟨ha, hb, h | h⟩ := h
 · obtain ⟨h1, h2, h3⟩ := h
   have hu : inU n (p.getD s.2.1 default) = true := List.all_eq_true.1 hp _ (by rw [List.getD_eq_getElem?_getD, List.getElem?_eq_getElem h2]; exact List.getElem_mem h2)
   obtain ⟨e, h4, h5, h6⟩ := ah1 hT hu ha hb h3
   exact .inr ⟨_, by unfold dj; rw [if_neg (by rw [h1]; decide)]; exact e, h4, fun Z hZ => ⟨fun r hr z hz => by obtain ⟨r2, h7, h8⟩ := h5 z ⟨r, hr, hz⟩; exact hZ r2 h7 z h8, h6 Z hZ⟩⟩
 · obtain ⟨h1, h2, h3⟩ := h
   rcases b1d hT ha hb h3 with e | ⟨e, h4, h5, h6⟩
   · exact .inl (by unfold dj; rw [if_pos h1]; exact e)
   · exact .inr ⟨_, by unfold dj; rw [if_pos h1]; exact e, h4, fun Z hZ => ⟨fun r hr z hz => by obtain ⟨r2, h7, h8⟩ := h5 z ⟨r, hr, hz⟩; exact hZ r2 h7 z h8, h6 Z hZ⟩⟩
def gh : Nat → Int → List Rw → List Fd → List Fd → List St → List St × (Int × List Rw) × Int
 | 0, _, _, _, _, _ => ([], (0, []), 0)
 | f + 1, n, l, p, m, acc =>
  match dm l p m with
  | none => (acc, (n, l), 0)
  | some s => match dj n l p m s with
   | (n', l', e) => if e = 0 then gh f n' l' p m (acc ++ [s]) else ([], (0, []), e)
theorem a4l {f : Nat} {n : Int} {l : List Rw} {p m : List Fd} {acc : List St} (hf : 0 < f) (h : dm l p m = none) : gh f n l p m acc = (acc, (n, l), 0) := by
 obtain ⟨g, rfl⟩ : ∃ g, f = g + 1 := ⟨f - 1, by omega⟩
 unfold gh
 rw [h]
theorem a5z {f : Nat} {n : Int} {l : List Rw} {p m : List Fd} {acc : List St} {s : St} (hf : 0 < f) (h : dm l p m = some s) {n' e : Int} {l' : List Rw} (h2 : dj n l p m s = (n', l', e)) (he : ¬ e = 0) : gh f n l p m acc = ([], (0, []), e) := by
 obtain ⟨g, rfl⟩ : ∃ g, f = g + 1 := ⟨f - 1, by omega⟩
 unfold gh
 rw [h]
 simp only
 rw [h2]
 simp only
 rw [if_neg he]
theorem vj {f : Nat} {n : Int} {l : List Rw} {p m : List Fd} {acc : List St} {s : St} (hf : 0 < f) (h : dm l p m = some s) {n' : Int} {l' : List Rw} (h2 : dj n l p m s = (n', l', 0)) : gh f n l p m acc = gh (f - 1) n' l' p m (acc ++ [s]) := by
 obtain ⟨g, rfl⟩ : ∃ g, f = g + 1 := ⟨f - 1, by omega⟩
 rw [Nat.add_sub_cancel]
 conv => lhs; unfold gh
 rw [h]
 simp only
 rw [h2]
 simp only
 rw [if_pos trivial]
end Go.Hx
end
section
namespace Go.Hx
open Go.Proofs
theorem ay8 (n : Int) (l : List Rw) (p m : List Fd) (s : St) (hT : tok n l = true) (hp : p.all (inU n) = true) (h : vi l p m s) :
 ah Tryz.prog 183 [pT n l, pP (fdl p), pP (fdl m), s.pc] (ap [pT (dj n l p m s).1 (dj n l p m s).2.1, pI (dj n l p m s).2.2]) := by
 obtain ⟨mu, i, a, b⟩ := s
 obtain ⟨ha, hb, h | h⟩ := h
 · obtain ⟨h1, h2, h3⟩ := h
   cases h1
   exact au8 n l p m i a b hT ha hb h2 (List.all_eq_true.1 hp _ (by rw [List.getD_eq_getElem?_getD, List.getElem?_eq_getElem h2]; exact List.getElem_mem h2))
 · obtain ⟨h1, h2, h3⟩ := h
   cases h1
   exact ax0 n l p m i a b hT ha hb h2
abbrev St.c (s : St) : Nat → PV := fun j => [.raw (.bool s.1), .raw (.int .i64 (s.2.1 : Int)), .raw (.int .i64 (s.2.2.1 : Int)), .raw (.int .i64 (s.2.2.2 : Int))].getD j .any
abbrev stl (l : List St) : PV := psl 4 St.c l
abbrev ckE (n : Int) (l : List Rw) (p m : List Fd) : Int := if tok n l = true then cu n p m else 1
theorem ajz {n : Int} {l : List Rw} {p m : List Fd} (h : ckE n l p m = 0) : tok n l = true ∧ cu n p m = 0 ∧ p.all (inU n) = true := by
 unfold ckE at h
 by_cases e : tok n l = true
 · rw [if_pos e] at h
   exact ⟨e, h, (sc h).2.2.2.1⟩
 · rw [if_neg e] at h; omega
def gj (F : Nat) (n : Int) (l : List Rw) (p m : List Fd) : List St × (Int × List Rw) × Int := if ckE n l p m = 0 then gh F n l p m [] else ([], (0, []), ckE n l p m)
theorem a42 {F : Nat} {n : Int} {l : List Rw} {p m : List Fd} (h : ¬ ckE n l p m = 0) : gj F n l p m = ([], (0, []), ckE n l p m) := if_neg h
theorem ph {F : Nat} {n : Int} {l : List Rw} {p m : List Fd} (h : ckE n l p m = 0) : gj F n l p m = gh F n l p m [] := if_pos h
theorem agk {α : Type} {o : Option α} (h : o.isSome = false) : o = none := by cases o <;> simp_all
theorem aer {α : Type} {o : Option α} (d : α) (h : o.isSome = true) : o = some (o.getD d) := by cases o <;> simp_all
theorem adk (l : List Rw) : Cov l.flatten l := fun r hr z hz => List.mem_flatten.2 ⟨r, hr, hz⟩
structure StI (F : Nat) (n : Int) (l : List Rw) (p m : List Fd) (x : Nat × List Rw × List St) : Prop where
 t : tok n x.2.1 = true
 c : Cov l.flatten x.2.1
 u : muC l.flatten x.2.1 < x.1
 b : x.2.2.length + x.1 ≤ F
 e : gh x.1 n x.2.1 p m x.2.2 = gh F n l p m []
theorem StI.start {F : Nat} {n : Int} {l : List Rw} {p m : List Fd} (hT : tok n l = true) (hF : muC l.flatten l < F) : StI F n l p m (F, l, []) := ⟨hT, adk l, hF, by simp, rfl⟩
theorem StI.next {F : Nat} {n : Int} {l : List Rw} {p m : List Fd} {x : Nat × List Rw × List St} {s : St} (h : StI F n l p m x) (hp : p.all (inU n) = true) (hS : dm x.2.1 p m = some s) (he : (dj n x.2.1 p m s).2.2 = 0) :
 (dj n x.2.1 p m s).1 = n ∧ StI F n l p m (x.1 - 1, (dj n x.2.1 p m s).2.1, x.2.2 ++ [s]) := by
 have hu := h.u
 have hb := h.b
 rcases ab5 h.t hp (a1a hS) with e | ⟨l', e, h1, h2⟩
 · rw [e] at he; exact absurd he (by decide)
 · have hq := h2 _ h.c
   refine ⟨by rw [e], ?_⟩
   rw [e]
   exact ⟨h1, hq.1, by show muC _ l' < _; omega, by simp only [List.length_append, List.length_singleton]; omega, by rw [← h.e, vj (by omega) hS e]⟩
theorem StI.fin {F : Nat} {n : Int} {l : List Rw} {p m : List Fd} {x : Nat × List Rw × List St} (h : StI F n l p m x) (hS : dm x.2.1 p m = none) : gh F n l p m [] = (x.2.2, (n, x.2.1), 0) := by
 have hu := h.u
 rw [← h.e, a4l (by omega) hS]
theorem StI.err {F : Nat} {n : Int} {l : List Rw} {p m : List Fd} {x : Nat × List Rw × List St} {s : St} (h : StI F n l p m x) (hS : dm x.2.1 p m = some s) (he : ¬ (dj n x.2.1 p m s).2.2 = 0) : gh F n l p m [] = ([], (0, []), (dj n x.2.1 p m s).2.2) := by
 have hu := h.u
 rw [← h.e]
 exact a5z (by omega) hS rfl he
end Go.Hx
end
section
namespace Go.Hx
open Go.Proofs
set_option maxRecDepth 100000
theorem au6 : goodFn Tryz.prog 149 := ⟨Tryz.f149, Tryz.func149, by kernel_rfl, by kernel_rfl⟩
theorem b02 (F : Nat) (n : Int) (l : List Rw) (p m : List Fd) (hF : tok n l = true → muC l.flatten l < F) (hFb : F ≤ 4000000000) : ah Tryz.prog 149 [pT n l, pP (fdl p), pP (fdl m)] (ap [pP (stl (gj F n l p m).1), pT (gj F n l p m).2.1.1 (gj F n l p m).2.1.2, pI (gj F n l p m).2.2]) := by
 refine ag (nt := 53) af Tryz.func149 rfl rfl l9 ?_; refine sx7 ?_; refine m9 0 ?_; refine qy ?_; refine m9 1 ?_; refine qy ?_; refine a6 ?_; refine a7 ?_; refine sx7 ?_; (iterate 3 refine qy ?_)
 refine rc rfl rfl rfl rfl rfl rfl asw (aob n l p m) (CoL.refl _) rfl rfl ?_; refine qy ?_; refine a6 ?_; refine sx7 ?_; (iterate 2 refine qy ?_); refine a6 ?_; refine a8 _ rfl (fun r0 => ?_) (fun r0 => ?_)
 ·
  have h0 := r0
  have h0 := of_decide_eq_false (ax h0)
  try simp only [ty] at h0
  refine sx7 ?_; (iterate 3 refine qy ?_); refine s9 ?_; refine qy ?_; refine a6 ?_; refine am ?_; refine ⟨.inr rfl, ?_⟩
  have he := a42 (F := F) (n := n) (l := l) (p := p) (m := m) (by assumption)
  exact f9 rfl rfl (by rw [he]; exact ⟨CoC.one (CoP.sl rfl (.inr rfl) (fun _ => rfl) (fun i j hi _ => absurd hi (Nat.not_lt_zero i))), CoC.agg ⟨CoP.refl _, bs, trivial⟩, CoC.refl _, trivial⟩)
 ·
  have h0 := r0
  have h0 := of_decide_eq_true (aw h0)
  try simp only [ty] at h0
  have hck : ckE n l p m = 0 := by assumption
  obtain ⟨hT, hbe, hpa⟩ := ajz hck
  obtain ⟨hn0, hn16, hl256, hrow⟩ := gn hT
  have hbig : ∀ i, i < l.length → (l.getD i default).length ≤ 17592186044416 := fun i hi => by rw [hrow i hi]; omega
  refine aa ?_; refine sx7 ?_; refine qy ?_; refine rc rfl rfl rfl rfl rfl rfl a7x (anf n l hbig (by omega)) (CoL.refl _) rfl rfl ?_; refine s9 ?_; refine a6 ?_; refine sx7 ?_; refine qy ?_; refine a6 ?_
  refine dp 10 900 true 4 155 (lf St.c []) (by decide) rfl (CoP.sl rfl (.inr rfl) (fun h => h) (fun i j hi _ => absurd hi (Nat.not_lt_zero i))) (.inr rfl) rfl ?_; refine ae ?_
  refine ai (ι := Nat × List Rw × List St) ⟨[(1, some _), (2, some _), (3, some _), (7, some _)], [(1, some _)]⟩ ⟨⟨c9, c9, c9, c9, trivial⟩, ⟨u9, trivial⟩⟩ (fun x => ⟨[(10, some (.v (.one (.ref 900 x.2.2.length))))], [(0, some (.box [.p (.raw (.int .i64 n)), .p (rl x.2.1)])), (900, some (.arr true 4 155 x.2.2.length (lf St.c x.2.2)))]⟩) (fun x => StI F n l p m x) (fun x => x.1) ((F, l, [])) (StI.start hT (hF hT)) ⟨⟨zy, trivial⟩, ⟨u9, u9, trivial⟩⟩ ?_
  rintro x hX
  have hXu := hX.u
  have hXb := hX.b
  refine ae ?_; refine sx7 ?_; (iterate 3 refine qy ?_); refine rc rfl rfl rfl rfl rfl rfl atr (axk n x.2.1 p m hX.t) (CoL.refl _) rfl rfl ?_; (iterate 3 refine qy ?_); refine m9 2 ?_; refine s9 ?_; refine qy ?_
  refine a6 ?_; refine a7 ?_; refine sx7 ?_; (iterate 2 refine qy ?_); refine a6 ?_; refine a8 _ rfl (fun r1 => ?_) (fun r1 => ?_)
  ·
   have h1 := r1
   have h1 := ax h1
   have hS := agk (by simpa using h1)
   refine a7 ?_; refine b7 (E := bm) af ar [0, 1, 2, 3, 4] ?_; (iterate 3 refine qy ?_); refine s9 ?_; refine qy ?_; refine a6 ?_; refine ⟨by kernel_rfl, ?_⟩; refine br 6 rfl rfl rfl ?_
   refine am ?_; refine ⟨.inr rfl, ?_⟩
   have he := (ph hck).trans (hX.fin hS)
   exact f9 rfl rfl (by rw [he]; exact CoL.refl _)
  ·
   have h1 := r1
   have h1 := aw h1
   have hS := aer (false, 0, 0, 0) (by simpa using h1)
   refine aa ?_; refine sx7 ?_; (iterate 4 refine qy ?_); refine rc rfl rfl rfl rfl rfl rfl aw5 (ay8 n x.2.1 p m ((dm x.2.1 p m).getD (false, 0, 0, 0)) hX.t hpa (a1a hS)) (CoL.refl _) rfl rfl ?_
   (iterate 3 refine qy ?_); refine m9 3 ?_; refine s9 ?_; refine qy ?_; refine a6 ?_; refine a7 ?_; refine sx7 ?_; (iterate 2 refine qy ?_); refine a6 ?_; refine a8 _ rfl (fun r2 => ?_) (fun r2 => ?_)
   ·
    have h2 := r2
    have h2 := of_decide_eq_false (ax h2)
    try simp only [ty] at h2
    refine sx7 ?_; (iterate 3 refine qy ?_); refine s9 ?_; refine qy ?_; refine a6 ?_; refine am ?_; refine ⟨.inr rfl, ?_⟩
    have he := (ph hck).trans (hX.err hS (by assumption))
    exact f9 rfl rfl (by rw [he]; exact ⟨CoC.one (CoP.sl rfl (.inr rfl) (fun _ => rfl) (fun i j hi _ => absurd hi (Nat.not_lt_zero i))), CoC.agg ⟨CoP.refl _, bs, trivial⟩, CoC.refl _, trivial⟩)
   ·
    have h2 := r2
    have h2 := of_decide_eq_true (aw h2)
    try simp only [ty] at h2
    have hnx := hX.next hpa hS (by assumption)
    refine aa ?_; refine b7 (E := bm) af ar [0, 1, 2, 3, 4, 5, 6] ?_; (iterate 2 refine qy ?_); refine m9 4 ?_; refine ra 5 true rfl rfl rfl rfl rfl rfl ?_; (iterate 2 refine qy ?_); refine s9 ?_
    refine a6 ?_; refine ⟨by kernel_rfl, ?_⟩; refine ⟨(x.1 - 1, (dj n x.2.1 p m ((dm x.2.1 p m).getD (false, 0, 0, 0))).2.1, x.2.2 ++ [((dm x.2.1 p m).getD (false, 0, 0, 0))]), ?_, ?_, ?_⟩
    · exact hnx.2
    · show x.1 - 1 < x.1
      omega
    · exact ⟨⟨⟨_, rfl, (dc rfl)⟩, c9, c9, c9, c9, trivial⟩, ⟨⟨_, rfl, ⟨CoP.of_eq (by rw [hnx.1]), CoH.refl _, trivial⟩⟩, ⟨_, rfl, (a1g rfl (fun j hj => by match j, hj with | 0, _ => exact CoP.refl _ | 1, _ => exact CoP.refl _ | 2, _ => exact CoP.refl _ | 3, _ => exact CoP.refl _) rfl)⟩, u9, trivial⟩⟩
end Go.Hx
end
section
namespace Go.Hx
theorem aat : ∀ {l : List Rw}, (∀ r, r ∈ l → r.length ≤ 16) → l.flatten.length ≤ 16 * l.length
 | [], _ => by simp
 | r :: l, h => by
  have h1 := h r (by simp)
  have h2 := aat (l := l) fun r hr => h r (by simp [hr])
  simp only [List.flatten_cons, List.length_append, List.length_cons]
  omega
abbrev FU : Nat := 1300000
theorem ab3 {n : Int} {l : List Rw} (h : tok n l = true) : muC l.flatten l < FU := by
 obtain ⟨h0, h1, h2, h3⟩ := gn h
 have h4 := aat (l := l) fun r hr => by have := (s5 h r hr).1; omega
 have h5 : a6f l.flatten l ≤ l.flatten.length := List.countP_le_length
 unfold muC
 show _ < 1300000
 omega
theorem axv {n : Int} {i : Nat} {p : AS} {k a N : Nat} (h : cn p (k : Int) = true) (hN : N = n.toNat) (ha : a = k) :
 CoO (.arr true 1 3 N (fb (lf zC (stT n i p k)) a 0 [.raw (.int .i64 (k : Int))])) (.arr true 1 3 N (lf zC (stT n i p (k + 1)))) := by
 subst ha
 refine ⟨fun h => h, rfl, rfl, rfl, fun c j hc hj => CoP.of_eq ?_⟩
 obtain rfl : j = 0 := by omega
 show _ = PV.raw (.int .i64 ((stT n i p (a + 1)).getD c default))
 rw [a35 c (by omega)]
 unfold fb
 by_cases e : c = a
 · rw [if_pos ⟨e, by omega, by simp⟩, if_pos e]
   unfold stV
   rw [if_pos h]
   rfl
 · rw [if_neg (fun x => e x.1), if_neg e]
   rfl
theorem al9 {k : Nat} (h : k < 32) : cn (j7 32) (k : Int) = true := by
 rw [ff h, jj 32 k h]
 exact decide_eq_true h
theorem ak3 {n : Int} {k : Nat} (h1 : n ≤ 16) (hk : n.toNat ≤ k) : stT n 0 (j7 32) k = cg n := by
 rw [aga _ _ _ hk]
 unfold stR cg
 refine List.map_congr_left fun c hc => ?_
 have := List.mem_range.1 hc
 unfold stV
 rw [if_pos (al9 (by omega))]
theorem aly {n : Int} {k : Nat} (h1 : n ≤ 16) (hk : n.toNat ≤ k) : CoC (.one (.sl n.toNat 1 false (lf zC (stT n 0 (j7 32) k)))) (pZ (cg n)) := by
 rw [ak3 h1 hk]
 exact ah6 (x3 n)
abbrev uc (n : Int) (x : Fd) : List AS := [x.lhs ||| x.rhs, x.lhs ||| (aq n &&& ~~~x.rhs)]
def b3c (n : Int) (p m : List Fd) (x : Fd) : Bool × Int :=
 if cu n p m = 0 then
  if inU n x = true then
   if (fc n (uc n x)).2.2 = 0 then
    if (gj FU (fc n (uc n x)).1 (fc n (uc n x)).2.1 p m).2.2 = 0 then ((gj FU (fc n (uc n x)).1 (fc n (uc n x)).2.1 p m).2.1.2.any (fun r => decide (r = cg n)), 0)
    else (false, (gj FU (fc n (uc n x)).1 (fc n (uc n x)).2.1 p m).2.2)
   else (false, (fc n (uc n x)).2.2)
  else (false, 1)
 else (false, cu n p m)
end Go.Hx
end
section
namespace Go.Hx
theorem b0a {r : Rw} {g f : Nat → Nat → PV} (hf : ∀ i j, f i j = lf zC r i j) : CoP (.sl (0 + r.length) 1 false (fw 0 g f)) (zl r) :=
 CoP.sl (Nat.zero_add _).symm (.inl rfl) (fun h => h) fun i j hi hj => CoP.of_eq (by simp [fw, hf])
theorem aib {l : List Rw} {i k : Nat} {g f : Nat → Nat → PV} {e et : TypeId} (hk : k = (l.getD i default).length) (hf : ∀ a b, f a b = lf zC (l.getD i default) a b) :
 CoO (.nest e et 1 (i + 1) (n3 (nM l) i k) (o9 (mg (bz l)) i (fw 0 g f)) none) (.nest e et 1 (i + 1) (nM l) (mg (bz l)) none) := by
 have e : fw 0 g f = lf zC (l.getD i default) := by funext a b; simp [fw, hf]
 rw [e]
 exact a9i hk rfl
end Go.Hx
end
section
namespace Go.Hx
open Go.Proofs
set_option maxRecDepth 100000
theorem a73 : goodFn Tryz.prog 174 := ⟨Tryz.f174, Tryz.func174, by kernel_rfl, by kernel_rfl⟩
theorem aaf (l : List Rw) (hl : ∀ i, i < l.length → (l.getD i default).length ≤ 17592186044416) (hl2 : l.length ≤ 5864062014805) : ee Tryz.prog 174 [.one (.p (rl l))] [] (.v (.one (.ref 901 l.length))) [(901, .arr true 1 121 l.length (lf rC l))] [] := by
 refine gl (nt := 21) af Tryz.func174 rfl rfl l9 rfl ?_; refine a7 ?_
 refine d1 0 rfl fun hn => ?_
 refine gy ?_; refine qy ?_; refine a6 ?_; refine sx7 ?_; refine qy ?_; refine a6 ?_
 refine dp 3 901 true 1 121 (lf rC l) (by decide) rfl (CoP.sl rfl (.inr rfl) (fun h => h) (fun i j hi _ => absurd hi (Nat.not_lt_zero i))) (.inr rfl) rfl ?_; refine a7 ?_; refine sx7 ?_; refine qy ?_; refine a6 ?_
 refine ae ?_
 refine ai (ι := Nat) ⟨[(0, some _)], []⟩ ⟨⟨c9, trivial⟩, trivial⟩ (fun i => ⟨[(3, some (.v (.one (.ref 901 i)))), (4, some (vI i))], [(901, some (.arr true 1 121 i (lf rC l)))]⟩) (fun i => i ≤ l.length) (fun i => l.length - i) (0) (Nat.zero_le _) ⟨⟨zy, zy, trivial⟩, ⟨u9, trivial⟩⟩ ?_
 rintro i hi
 refine a7 ?_; refine sx7 ?_; (iterate 4 refine qy ?_); refine a6 ?_; refine a8 _ rfl (fun r0 => ?_) (fun r0 => ?_)
 ·
  have h0 := of_decide_eq_true r0
  try simp only [ty] at h0
  have hli := hl i (by omega)
  refine aa ?_; refine a7 ?_; refine ae ?_; refine ags [0, 1, 2, 3, 4, 5, 6] [7, 8, 9] rfl ?_; refine an6 (E := bm) af ?_; refine qy ?_; refine m9 0 ?_; (iterate 4 refine qy ?_)
  refine ra 1 true rfl rfl rfl rfl rfl rfl ?_; refine a6 ?_; refine b0u ?_; refine amq 17 rfl rfl rfl ?_; refine at0 ?_; refine an6 (E := bm) (L1 := [7, 8, 9]) (L2 := []) af ?_; refine m9 2 ?_
  refine ra 3 true rfl rfl rfl rfl rfl rfl ?_; refine qy ?_; refine a6 ?_; refine azk ?_; refine gy ?_; (iterate 3 refine qy ?_); refine a6 ?_; refine ⟨i + 1, ?_, ?_, ?_⟩
  · show i + 1 ≤ _; omega
  · first | omega | (dsimp only; omega)
  · exact ⟨⟨zy, zy, c9, trivial⟩, ⟨⟨_, rfl, (lz (fun h => h) (fun j hj => by obtain rfl : j = 0 := (by omega); exact b0a (fun _ _ => rfl)))⟩, trivial⟩⟩
 ·
  have h0 := of_decide_eq_false r0
  try simp only [ty] at h0
  obtain rfl : i = l.length := by omega
  refine ak ?_; refine sx7 ?_; (iterate 2 refine qy ?_); refine a6 ?_; refine am ?_; refine ⟨.inr rfl, ?_⟩
  exact ⟨_, _, rfl, (by (repeat' apply And.intro) <;> first | trivial | exact Nat.le_of_ble_eq_true rfl), CoR.refl _, ⟨u9, trivial⟩⟩
theorem amt (l : List Rw) (hl : ∀ i, i < l.length → (l.getD i default).length ≤ 17592186044416) (hl2 : l.length ≤ 5864062014805) : ee Tryz.prog 174 [.one (.p (rl l))] [] (.v (.one (.ref 901 l.length))) [(901, .nest 121 3 1 l.length (nM l) (mg (bz l)) none)] [] := by
 refine gl (nt := 21) af Tryz.func174 rfl rfl l9 rfl ?_; refine a7 ?_
 refine d1 0 rfl fun hn => ?_
 refine gy ?_; refine qy ?_; refine a6 ?_; refine sx7 ?_; refine qy ?_; refine a6 ?_; refine akf 3 901 121 3 1 (nM l) (mg (bz l)) (by decide) rfl rfl ?_; refine a7 ?_; refine sx7 ?_; refine qy ?_
 refine a6 ?_; refine ae ?_
 refine ai (ι := Nat) ⟨[(0, some _)], []⟩ ⟨⟨c9, trivial⟩, trivial⟩ (fun i => ⟨[(3, some (.v (.one (.ref 901 i)))), (4, some (vI i))], [(901, some (.nest 121 3 1 i (nM l) (mg (bz l)) none))]⟩) (fun i => i ≤ l.length) (fun i => l.length - i) (0) (Nat.zero_le _) ⟨⟨zy, zy, trivial⟩, ⟨u9, trivial⟩⟩ ?_
 rintro i hi
 refine a7 ?_; refine sx7 ?_; (iterate 4 refine qy ?_); refine a6 ?_; refine a8 _ rfl (fun r0 => ?_) (fun r0 => ?_)
 ·
  have h0 := of_decide_eq_true r0
  try simp only [ty] at h0
  have hli := hl i (by omega)
  refine aa ?_; refine a7 ?_; refine ae ?_; refine gy ?_; refine qy ?_; refine m9 0 ?_; (iterate 4 refine qy ?_); refine ra 1 true rfl rfl rfl rfl rfl rfl ?_; refine m9 2 ?_
  refine ra 3 true rfl rfl rfl rfl rfl rfl ?_; refine qy ?_; refine a6 ?_; refine a8o 901 0 rfl rfl ?_; refine gy ?_; (iterate 3 refine qy ?_); refine a6 ?_; refine ⟨i + 1, ?_, ?_, ?_⟩
  · show i + 1 ≤ _; omega
  · first | omega | (dsimp only; omega)
  · exact ⟨⟨zy, zy, c9, trivial⟩, ⟨⟨_, rfl, (aib (Nat.zero_add _) (fun _ _ => rfl))⟩, trivial⟩⟩
 ·
  have h0 := of_decide_eq_false r0
  try simp only [ty] at h0
  obtain rfl : i = l.length := by omega
  refine ak ?_; refine sx7 ?_; (iterate 2 refine qy ?_); refine a6 ?_; refine am ?_; refine ⟨.inr rfl, ?_⟩
  exact ⟨_, _, rfl, (by (repeat' apply And.intro) <;> first | trivial | exact Nat.le_of_ble_eq_true rfl), CoR.refl _, ⟨u9, trivial⟩⟩
end Go.Hx
end
section
namespace Go.Hx
theorem amf {s : AS} {n : Nat} (hn : n ≤ 32) (h : ∀ j, j ∈ b5 s → j < n) : fh s n = b5 s := by
 have h2 : ∀ d, n + d ≤ 32 → fh s (n + d) = fh s n := by
  intro d
  induction d with
  | zero => intro _; rfl
  | succ d ih =>
   intro hd
   have hf : cn s ((n + d : Nat) : Int) = false := by
    rw [ff (by omega), Bool.eq_false_iff]
    intro e
    have := h _ (ip.2 ⟨by omega, e⟩)
    omega
   rw [← ih (by omega)]
   exact a1v (i := n + d) (show n + d < 32 by omega) hf
 have := h2 (32 - n) (by omega)
 rw [← this, show n + (32 - n) = 32 by omega]
 rfl
theorem np {M : Nat → Nat → Int} {a b j : Nat} {js : List Nat} : eqMs M a b (js ++ [j]) = eqM (eqMs M a b js) a b j := by
 unfold eqMs
 rw [List.foldl_append]
 rfl
theorem ap5 {l : List Rw} {M : Nat → Nat → Int} {n : Nat} (hn : n = l.length) : CoP (.sl n 1 false (ur 1 (nM l) (mg M))) (rl (d9 l M)) := by
 obtain ⟨_, _, _, h1, h2⟩ := afr (l := l) (M := M) (e := 25) hn
 exact CoP.sl h1 (.inl rfl) (fun h => h) h2
end Go.Hx
end
