/- A part of the proof: Cs28 V27 Cs29 V28 Cs30 V29 Cs31. -/
import Derived.Test.YtidophngianjiaaGreatDoor10x33
set_option linter.all false
section
namespace Go.Hx
theorem b2a {i a : Nat} (hi : i < 65536) (ha : a < 16) : ca .xor .i64 (i : Int) (IntKind.wrap .i64 (1 * 2 ^ min (a : Int).toNat IntKind.i64.bits)) = ((i ^^^ 2 ^ a : Nat) : Int) := by
 have h2 : 2 ^ a ≤ 2 ^ 15 := Nat.pow_le_pow_right (by omega) (by omega)
 have h3 : i ^^^ 2 ^ a < 2 ^ 16 := Nat.xor_lt_two_pow hi (by omega)
 have e : IntKind.wrap .i64 (1 * 2 ^ min (a : Int).toNat IntKind.i64.bits) = ((2 ^ a : Nat) : Int) := by
  have := arn (n := (a : Int)) (by omega) (by omega)
  rwa [Int.toNat_natCast] at this ⊢
 rw [e]
 show IntKind.wrap .i64 ((BitVec.ofInt 64 (i : Int) ^^^ BitVec.ofInt 64 ((2 ^ a : Nat) : Int)).toNat : Int) = _
 have e1 : (BitVec.ofInt 64 (i : Int) ^^^ BitVec.ofInt 64 ((2 ^ a : Nat) : Int)).toNat = i ^^^ 2 ^ a := by
  rw [BitVec.toNat_xor, BitVec.ofInt_natCast, BitVec.ofInt_natCast, BitVec.toNat_ofNat, BitVec.toNat_ofNat, Nat.mod_eq_of_lt (by omega), Nat.mod_eq_of_lt (by omega)]
 rw [e1]
 generalize i ^^^ 2 ^ a = z at *
 exact lp (by simp only [inR, oq, qq]; omega)
theorem ag1 {i a j : Nat} : (i ^^^ 2 ^ a).testBit j = if j = a then !i.testBit j else i.testBit j := by
 rw [Nat.testBit_xor, Nat.testBit_two_pow]
 by_cases h : j = a
 · subst h; simp
 · rw [if_neg h, decide_eq_false (fun e => h e.symm)]; simp
theorem a5u {i k : Nat} (hk : k < 32) : (BitVec.ofNat 32 i).getLsbD k = i.testBit k := by
 rw [BitVec.getLsbD_ofNat, decide_eq_true hk, Bool.true_and]
theorem afs {i a : Nat} (ha : a < 32) (h : i.testBit a = true) : (BitVec.ofNat 32 (i ^^^ 2 ^ a) : AS) = noA (BitVec.ofNat 32 i) a := by
 apply BitVec.eq_of_getLsbD_eq
 intro k hk
 unfold noA
 rw [a5u hk, ag1, BitVec.getLsbD_and, BitVec.getLsbD_not, decide_eq_true hk, Bool.true_and, a5u hk]
 have h1 : ((1 : AS) <<< a).getLsbD k = decide (k = a) := eg a k hk
 rw [h1]
 by_cases e : k = a
 · subst e
   rw [if_pos rfl, h, decide_eq_true rfl]
   rfl
 · rw [if_neg e, decide_eq_false e]
   simp
theorem ajv {i a : Nat} (hi : i < 65536) (ha : a < 16) (h : i.testBit a = true) : i ^^^ 2 ^ a < i := by
 have h3 : i ^^^ 2 ^ a < 2 ^ 16 := Nat.xor_lt_two_pow hi (Nat.pow_lt_pow_right (by omega) (by omega))
 have e := congrArg BitVec.toNat (afs (i := i) (a := a) (by omega) h)
 have hs : sub (noA (BitVec.ofNat 32 i) a) (BitVec.ofNat 32 i) := d8
 have hne : noA (BitVec.ofNat 32 i) a ≠ BitVec.ofNat 32 i := fun e => by
  have e1 := congrArg (fun z : AS => z.getLsbD a) e
  unfold noA at e1
  have h1 : ((1 : AS) <<< a).getLsbD a = decide (a = a) := eg a a (by omega)
  simp only [BitVec.getLsbD_and, BitVec.getLsbD_not, h1, a5u (show a < 32 by omega), h] at e1
  simp at e1
 have hl := qf hs hne
 rw [← e, BitVec.toNat_ofNat, BitVec.toNat_ofNat, Nat.mod_eq_of_lt (by omega), Nat.mod_eq_of_lt (by omega)] at hl
 exact hl
theorem az5 {i a : Nat} (hi : i < 65536) (ha : a < 16) (h : i.testBit a = false) : i < i ^^^ 2 ^ a := by
 have h3 : i ^^^ 2 ^ a < 2 ^ 16 := Nat.xor_lt_two_pow hi (Nat.pow_lt_pow_right (by omega) (by omega))
 have hb : (i ^^^ 2 ^ a).testBit a = true := by rw [ag1, if_pos rfl, h]; rfl
 have := ajv h3 ha hb
 rwa [Nat.xor_assoc, Nat.xor_self, Nat.xor_zero] at this
section
variable {n : Int} {l : List Fd}
theorem a8d (h0 : 0 ≤ n) (h1 : n ≤ 16) {i : Nat} (h : i < 2 ^ n.toNat) : sub (BitVec.ofNat 32 i) (aq n) := az.2 fun k hk hb => by
 rw [a5u hk] at hb
 unfold aq
 rw [jj _ k hk, Nat.min_eq_left (by omega)]
 rw [decide_eq_true_iff]
 apply Classical.byContradiction
 intro hge
 have hlt : i < 2 ^ k := Nat.lt_of_lt_of_le h (Nat.pow_le_pow_right (by omega) (by omega))
 rw [Nat.testBit_lt_two_pow hlt] at hb
 cases hb
theorem abe (hv : av n l = 0) {i : Nat} (h : i < 2 ^ n.toNat) : eo n l (BitVec.ofNat 32 i) = pn n l i := by
 obtain ⟨h0, h1, _⟩ := cr hv
 unfold eo pn
 exact decide_eq_decide.2 ⟨fun e => e.2.2, fun e => ⟨hv, a8d h0 h1 h, e⟩⟩
theorem a92 {a i : Nat} (h : i < 2 ^ n.toNat) (ha : a < n.toNat) : i ^^^ 2 ^ a < 2 ^ n.toNat := Nat.xor_lt_two_pow h (Nat.pow_lt_pow_right (by omega) ha)
def okA (n : Int) (l : List Fd) (i a : Nat) : Bool := pn n l i && (List.range a).all fun b => !(i.testBit b && pn n l (i ^^^ 2 ^ b))
theorem a3v (i a : Nat) : okA n l i (a + 1) = (okA n l i a && !(i.testBit a && pn n l (i ^^^ 2 ^ a))) := by
 unfold okA
 rw [List.range_succ, List.all_append]
 simp only [List.all_cons, List.all_nil, Bool.and_true, Bool.and_assoc]
theorem ag3 (hv : av n l = 0) {i : Nat} (h : i < 2 ^ n.toNat) : qe n l (BitVec.ofNat 32 i) = okA n l i n.toNat := by
 obtain ⟨h0, h1, _⟩ := cr hv
 unfold qe okA
 rw [abe hv h]
 congr 1
 have key : ∀ a, a < n.toNat → (!((BitVec.ofNat 32 i : AS).getLsbD a && eo n l (noA (BitVec.ofNat 32 i) a))) = !(i.testBit a && pn n l (i ^^^ 2 ^ a)) := fun a ha => by
  rw [a5u (by omega)]
  cases hb : i.testBit a with
  | false => rfl
  | true => rw [← afs (by omega) hb, abe hv (a92 h ha)]
 rw [Bool.eq_iff_iff, List.all_eq_true, List.all_eq_true]
 exact ⟨fun hh a ha => by rw [← key a (List.mem_range.1 ha)]; exact hh a ha, fun hh a ha => by rw [key a (List.mem_range.1 ha)]; exact hh a ha⟩
theorem ke {i a : Nat} (hv : av n l = 0) (h : i < 2 ^ n.toNat) (ha : a ≤ n.toNat) (hf : okA n l i a = false) : qe n l (BitVec.ofNat 32 i) = false := by
 rw [ag3 hv h]
 have : ∀ d, okA n l i (a + d) = false := by
  intro d
  induction d with
  | zero => exact hf
  | succ d ih => rw [← Nat.add_assoc, a3v, ih]; rfl
 have e := this (n.toNat - a)
 rwa [show a + (n.toNat - a) = n.toNat by omega] at e
theorem b1o {i : Nat} (h : i < 2 ^ n.toNat) : ((ta n l).getD ((i : Nat) : Int).toNat default == true) = okA n l i 0 := by
 show ((ta n l).getD i default == true) = _
 rw [a3x h]
 unfold okA
 simp
section
variable {i a : Nat} (hv : av n l = 0) (hi : i < 2 ^ n.toNat) (ha : (a : Int) < n) (hx : i ^^^ 2 ^ a < 2 ^ n.toNat)
theorem amd (hi : i < 65536) (ha : a < 16) : (decide (((i ^^^ 2 ^ a : Nat) : Int) < (i : Int)) == true) = i.testBit a := by
 cases hb : i.testBit a with
 | false =>
  have := az5 hi ha hb
  rw [decide_eq_false (by omega)]; rfl
 | true =>
  have := ajv hi ha hb
  rw [decide_eq_true (by omega)]; rfl
include hv hi ha hx
theorem ahe (h3 : (decide (((i ^^^ 2 ^ a : Nat) : Int) < (i : Int)) == true) = true) (h4 : ((ta n l).getD (((i ^^^ 2 ^ a : Nat) : Int)).toNat default == true) = true) : false = okA n l i (a + 1) := by
 have hv0 := cr hv
 have hpw : 2 ^ n.toNat ≤ 2 ^ 16 := Nat.pow_le_pow_right (by omega) (by omega)
 rw [amd (by omega) (by omega)] at h3
 have h4 : ((ta n l).getD (i ^^^ 2 ^ a) default == true) = true := h4
 rw [a3x hx] at h4
 have h4 : pn n l (i ^^^ 2 ^ a) = true := by simpa using h4
 rw [a3v, h3, h4]
 simp
theorem a11 (h : (decide (((i ^^^ 2 ^ a : Nat) : Int) < (i : Int)) == true) = false ∨ ((ta n l).getD (((i ^^^ 2 ^ a : Nat) : Int)).toNat default == true) = false) : okA n l i a = okA n l i (a + 1) := by
 have hv0 := cr hv
 have hpw : 2 ^ n.toNat ≤ 2 ^ 16 := Nat.pow_le_pow_right (by omega) (by omega)
 rw [a3v]
 rcases h with h | h
 · rw [amd (by omega) (by omega)] at h
   rw [h]; simp
 · have h4 : ((ta n l).getD (i ^^^ 2 ^ a) default == true) = false := h
   rw [a3x hx] at h4
   have h4 : pn n l (i ^^^ 2 ^ a) = false := by simpa using h4
   rw [h4]; simp
end
theorem qk {i a : Nat} (hv : av n l = 0) (hi : i < 2 ^ n.toNat) (ha : a ≤ n.toNat) (h : okA n l i a = true) (h1 : ¬ (a : Int) < n) : qe n l (BitVec.ofNat 32 i) = true := by
 rw [ag3 hv hi]
 have := (cr hv).1
 rwa [show n.toNat = a by omega]
theorem qj {i a : Nat} (h : okA n l i a = false) (h1 : okA n l i a = true) {p : Prop} : p := by
 rw [h] at h1
 cases h1
end
end Go.Hx
end
section
namespace Go.Hx
open Go.Proofs
set_option maxRecDepth 100000
theorem awk : goodFn Tryz.prog 167 := ⟨Tryz.f167, Tryz.func167, by kernel_rfl, by kernel_rfl⟩
theorem apr (n : Int) (l : List Fd) (hv : av n l = 0) : ah Tryz.prog 167 [pI n, pP (psl 1 bC (ta n l)), pB true] (ap [pP (asl (ord (ju n l (2 ^ n.toNat))))]) := by
 refine ag (nt := 57) af Tryz.func167 rfl rfl l9 ?_; refine sx7 ?_; refine qy ?_; refine a6 ?_; refine a7 ?_
 have hv0 := cr hv
 have hsl := aoe n l
 have hpw : 2 ^ n.toNat ≤ 2 ^ 16 := Nat.pow_le_pow_right (by omega) (by omega)
 refine gy ?_; refine qy ?_; refine a6 ?_; refine a7 ?_; refine sx7 ?_; (iterate 3 refine qy ?_); refine a6 ?_; refine ae ?_
 refine dp 7 900 true 1 38 (lf sC []) (by decide) rfl (CoP.sl rfl (.inr rfl) (fun h => h) (fun i j hi _ => absurd hi (Nat.not_lt_zero i))) (.inr rfl) rfl ?_
 refine ai (ι := Nat) ⟨[(0, some _), (1, some _), (2, some _), (13, some _), (14, some _)], []⟩ ⟨⟨c9, c9, c9, c9, c9, trivial⟩, trivial⟩ (fun i => ⟨[(7, some (.v (.one (.ref 900 (ju n l i).length)))), (15, some (vI i))], [(900, some (.arr true 1 38 (ju n l i).length (lf sC (ju n l i))))]⟩) (fun i => i ≤ 2 ^ n.toNat) (fun i => 2 ^ n.toNat - i) (0) (Nat.zero_le _) ⟨⟨zy, zy, trivial⟩, ⟨u9, trivial⟩⟩ ?_
 rintro i hi
 have hlen := a9c n l i
 refine sx7 ?_; refine qy ?_; refine a6 ?_; refine a7 ?_; refine a8 _ rfl (fun r0 => ?_) (fun r0 => ?_)
 ·
  have h0 := of_decide_eq_true r0
  try simp only [ty] at h0
  have hi2 : i < 2 ^ n.toNat := by omega
  refine aa ?_; refine a7 ?_; refine ae ?_; refine sx7 ?_; (iterate 5 refine qy ?_); refine a6 ?_; refine sx7 ?_; (iterate 4 refine qy ?_); refine a6 ?_; refine a7 ?_; refine sx7 ?_; refine qy ?_
  refine a6 ?_; refine ae ?_
  refine ai (ι := Nat) ⟨[(0, some _), (1, some _), (2, some _), (7, some _), (8, some _), (13, some _), (14, some _), (15, some _)], [(900, some _)]⟩ ⟨⟨c9, c9, c9, c9, c9, c9, c9, c9, trivial⟩, ⟨u9, trivial⟩⟩ (fun a => ⟨[(10, some (vB (okA n l i a))), (11, some (vI a))], []⟩) (fun a => a ≤ n.toNat) (fun a => n.toNat - a) (0) (Nat.zero_le _) ⟨⟨⟨_, rfl, (cob (b1o hi2))⟩, zy, trivial⟩, trivial⟩ ?_
  rintro a ha
  refine a7 ?_; refine sx7 ?_; (iterate 4 refine qy ?_); refine bc rfl rfl (fun r1 => ?_) (fun r1 => ?_)
  ·
   have h1 := of_decide_eq_true r1
   try simp only [ty] at h1
   refine qy ?_ (hg := (gtt r1)); refine qy ?_; refine a6 ?_; refine a8 _ rfl (fun r2 => ?_) (fun r2 => ?_)
   ·
    have h2 := r2
    have h2 := cj r1 h2
    have hx := a92 (n := n) (i := i) (a := a) (by omega) (by omega)
    refine aa ?_; refine a7 ?_; refine ae ?_; refine sx7 ?_; (iterate 5 refine qy ?_); refine a6 ?_; refine a7 ?_
    refine ao1 ⟨[(0, some _), (1, some _), (2, some _), (7, some _), (8, some _), (10, some _), (11, some _), (12, some (vI ((i ^^^ 2 ^ a : Nat) : Int))), (13, some _), (14, some _), (15, some _)], [(900, some _)]⟩ ⟨⟨c9, c9, c9, c9, c9, c9, c9, ⟨_, rfl, coi (b2a (by omega) (by omega))⟩, c9, c9, c9, trivial⟩, ⟨u9, trivial⟩⟩ ?_
    refine gy ?_; (iterate 6 refine qy ?_); refine bc rfl rfl (fun r3 => ?_) (fun r3 => ?_)
    ·
     have h3 := r3
     (iterate 6 refine qy ?_ (hg := (gtt r3))); refine qy ?_; refine a6 ?_; refine a8 _ rfl (fun r4 => ?_) (fun r4 => ?_)
     ·
      have h4 := r4
      have h4 := cj r3 h4
      refine gy ?_; refine qy ?_; refine a6 ?_; refine gy ?_; (iterate 3 refine qy ?_); refine a6 ?_; refine ⟨a + 1, ?_, ?_, ?_⟩
      · show a + 1 ≤ _; omega
      · first | omega | (dsimp only; omega)
      · exact ⟨⟨⟨_, rfl, (cob (by first | exact ahe hv hi2 (by assumption) hx (by assumption) (by assumption) | exact a11 hv hi2 (by assumption) hx (.inr (by assumption)) | exact a11 hv hi2 (by assumption) hx (.inl (by assumption))))⟩, zy, c9, c9, c9, c9, c9, c9, c9, c9, trivial⟩, ⟨u9, trivial⟩⟩
     ·
      have h4 := r4
      have h4 := cj r3 h4
      refine aa ?_; refine gy ?_; (iterate 3 refine qy ?_); refine a6 ?_; refine ⟨a + 1, ?_, ?_, ?_⟩
      · show a + 1 ≤ _; omega
      · first | omega | (dsimp only; omega)
      · exact ⟨⟨⟨_, rfl, (cob (by first | exact ahe hv hi2 (by assumption) hx (by assumption) (by assumption) | exact a11 hv hi2 (by assumption) hx (.inr (by assumption)) | exact a11 hv hi2 (by assumption) hx (.inl (by assumption))))⟩, zy, c9, c9, c9, c9, c9, c9, c9, c9, trivial⟩, ⟨u9, trivial⟩⟩
    ·
     have h3 := r3
     (iterate 6 refine k9 (gft r3) ?_); refine rq rfl rfl rfl rfl rfl ?_ (hp := r3); refine a6 ?_; refine a8 _ rfl (fun e => by cases e) (fun _ => ?_); refine aa ?_; refine gy ?_; (iterate 3 refine qy ?_)
     refine a6 ?_; refine ⟨a + 1, ?_, ?_, ?_⟩
     · show a + 1 ≤ _; omega
     · first | omega | (dsimp only; omega)
     · exact ⟨⟨⟨_, rfl, (cob (by first | exact ahe hv hi2 (by assumption) hx (by assumption) (by assumption) | exact a11 hv hi2 (by assumption) hx (.inr (by assumption)) | exact a11 hv hi2 (by assumption) hx (.inl (by assumption))))⟩, zy, c9, c9, c9, c9, c9, c9, c9, c9, trivial⟩, ⟨u9, trivial⟩⟩
   ·
    have h2 := r2
    have h2 := cj r1 h2
    refine ak ?_; refine sx7 ?_; refine qy ?_; refine a6 ?_; refine a8 _ rfl (fun r5 => ?_) (fun r5 => ?_)
    ·
     have h5 := r5
     refine gy ?_; (iterate 3 refine qy ?_); refine m9 0 ?_; refine ra 1 true rfl rfl rfl rfl rfl rfl ?_; refine qy ?_; refine a6 ?_; refine gy ?_; (iterate 2 refine qy ?_); refine a6 ?_
     first | (refine ⟨i + 1, ?_, ?_, ?_⟩
              · show i + 1 ≤ _; omega
              · first | omega | (dsimp only; omega)
              · exact ⟨⟨⟨_, rfl, (dc (nv (by first | exact qk hv hi2 ha (by assumption) (by assumption) | exact qj (by assumption) (by assumption))))⟩, zy, c9, c9, c9, c9, c9, trivial⟩, ⟨⟨_, rfl, (ew (nv (by first | exact qk hv hi2 ha (by assumption) (by assumption) | exact qj (by assumption) (by assumption))) (CoP.of_eq (congrArg (fun z => PV.raw (.int .u32 z)) (f5 (by omega)))))⟩, trivial⟩⟩)
           | (refine ⟨i + 1, ?_, ?_, ?_⟩
              · show i + 1 ≤ _; omega
              · first | omega | (dsimp only; omega)
              · exact ⟨⟨⟨_, rfl, (fu (nz (ke hv hi2 ha (by assumption))))⟩, zy, c9, c9, c9, c9, c9, trivial⟩, ⟨⟨_, rfl, (dy (nz (ke hv hi2 ha (by assumption))))⟩, trivial⟩⟩)
    ·
     have h5 := r5
     refine aa ?_; refine gy ?_; (iterate 2 refine qy ?_); refine a6 ?_
     first | (refine ⟨i + 1, ?_, ?_, ?_⟩
              · show i + 1 ≤ _; omega
              · first | omega | (dsimp only; omega)
              · exact ⟨⟨⟨_, rfl, (dc (nv (by first | exact qk hv hi2 ha (by assumption) (by assumption) | exact qj (by assumption) (by assumption))))⟩, zy, c9, c9, c9, c9, c9, trivial⟩, ⟨⟨_, rfl, (ew (nv (by first | exact qk hv hi2 ha (by assumption) (by assumption) | exact qj (by assumption) (by assumption))) (CoP.of_eq (congrArg (fun z => PV.raw (.int .u32 z)) (f5 (by omega)))))⟩, trivial⟩⟩)
           | (refine ⟨i + 1, ?_, ?_, ?_⟩
              · show i + 1 ≤ _; omega
              · first | omega | (dsimp only; omega)
              · exact ⟨⟨⟨_, rfl, (fu (nz (ke hv hi2 ha (by assumption))))⟩, zy, c9, c9, c9, c9, c9, trivial⟩, ⟨⟨_, rfl, (dy (nz (ke hv hi2 ha (by assumption))))⟩, trivial⟩⟩)
  ·
   have h1 := of_decide_eq_false r1
   try simp only [ty] at h1
   refine k9 (gft r1) ?_; refine rq rfl rfl rfl rfl rfl ?_ (hp := r1); refine a6 ?_; refine a8 _ rfl (fun e => by cases e) (fun _ => ?_); refine ak ?_; refine sx7 ?_; refine qy ?_; refine a6 ?_
   refine a8 _ rfl (fun r6 => ?_) (fun r6 => ?_)
   ·
    have h6 := r6
    refine gy ?_; (iterate 3 refine qy ?_); refine m9 2 ?_; refine ra 3 true rfl rfl rfl rfl rfl rfl ?_; refine qy ?_; refine a6 ?_; refine gy ?_; (iterate 2 refine qy ?_); refine a6 ?_
    first | (refine ⟨i + 1, ?_, ?_, ?_⟩
             · show i + 1 ≤ _; omega
             · first | omega | (dsimp only; omega)
             · exact ⟨⟨⟨_, rfl, (dc (nv (by first | exact qk hv hi2 ha (by assumption) (by assumption) | exact qj (by assumption) (by assumption))))⟩, zy, c9, c9, c9, c9, c9, trivial⟩, ⟨⟨_, rfl, (ew (nv (by first | exact qk hv hi2 ha (by assumption) (by assumption) | exact qj (by assumption) (by assumption))) (CoP.of_eq (congrArg (fun z => PV.raw (.int .u32 z)) (f5 (by omega)))))⟩, trivial⟩⟩)
          | (refine ⟨i + 1, ?_, ?_, ?_⟩
             · show i + 1 ≤ _; omega
             · first | omega | (dsimp only; omega)
             · exact ⟨⟨⟨_, rfl, (fu (nz (ke hv hi2 ha (by assumption))))⟩, zy, c9, c9, c9, c9, c9, trivial⟩, ⟨⟨_, rfl, (dy (nz (ke hv hi2 ha (by assumption))))⟩, trivial⟩⟩)
   ·
    have h6 := r6
    refine aa ?_; refine gy ?_; (iterate 2 refine qy ?_); refine a6 ?_
    first | (refine ⟨i + 1, ?_, ?_, ?_⟩
             · show i + 1 ≤ _; omega
             · first | omega | (dsimp only; omega)
             · exact ⟨⟨⟨_, rfl, (dc (nv (by first | exact qk hv hi2 ha (by assumption) (by assumption) | exact qj (by assumption) (by assumption))))⟩, zy, c9, c9, c9, c9, c9, trivial⟩, ⟨⟨_, rfl, (ew (nv (by first | exact qk hv hi2 ha (by assumption) (by assumption) | exact qj (by assumption) (by assumption))) (CoP.of_eq (congrArg (fun z => PV.raw (.int .u32 z)) (f5 (by omega)))))⟩, trivial⟩⟩)
          | (refine ⟨i + 1, ?_, ?_, ?_⟩
             · show i + 1 ≤ _; omega
             · first | omega | (dsimp only; omega)
             · exact ⟨⟨⟨_, rfl, (fu (nz (ke hv hi2 ha (by assumption))))⟩, zy, c9, c9, c9, c9, c9, trivial⟩, ⟨⟨_, rfl, (dy (nz (ke hv hi2 ha (by assumption))))⟩, trivial⟩⟩)
 ·
  have h0 := of_decide_eq_false r0
  try simp only [ty] at h0
  obtain rfl : i = 2 ^ n.toNat := by omega
  refine ak ?_; refine a7 ?_; refine br 7 rfl rfl rfl ?_; refine gy ?_; refine qy ?_; refine rc rfl rfl rfl rfl rfl rfl aao (abw (ju n l (2 ^ n.toNat)) (by omega)) (CoL.refl _) rfl rfl ?_; refine qy ?_
  refine a6 ?_
  exact hx8 rfl rfl rfl (CoL.refl _)
end Go.Hx
end
section
namespace Go.Hx
theorem a8c (n : Int) (l : List Fd) : (d5 n l).length ≤ 65536 := by
 unfold d5
 split
 · rename_i h
   have h1 := a14 (ju n l (2 ^ n.toNat))
   have h2 := a9c n l (2 ^ n.toNat)
   have h3 := (cr h)
   have h4 : 2 ^ n.toNat ≤ 2 ^ 16 := Nat.pow_le_pow_right (by omega) (by omega)
   omega
 · simp
end Go.Hx
end
section
namespace Go.Hx
open Go.Proofs
set_option maxRecDepth 100000
theorem af4 : goodFn Tryz.prog 130 := ⟨Tryz.f130, Tryz.func130, by kernel_rfl, by kernel_rfl⟩
theorem arw (n : Int) (l : List Fd) : ah Tryz.prog 130 [pI n, pP (fdl l)] (ap [pP (asl (d5 n l)), pI (av n l)]) := by
 refine ag (nt := 18) af Tryz.func130 rfl rfl l9 ?_; refine sx7 ?_; (iterate 2 refine qy ?_); refine a6 ?_; refine a7 ?_; refine sx7 ?_; (iterate 2 refine qy ?_)
 refine rc rfl rfl rfl rfl rfl rfl tj (sx n l) (CoL.refl _) rfl rfl ?_; refine qy ?_; refine a6 ?_; refine sx7 ?_; (iterate 2 refine qy ?_); refine a6 ?_; refine a8 _ rfl (fun r0 => ?_) (fun r0 => ?_)
 ·
  have h0 := r0
  have h0 := of_decide_eq_false (ax h0)
  try simp only [ty] at h0
  refine sx7 ?_; (iterate 3 refine qy ?_); refine a6 ?_
  exact hx8 rfl rfl rfl (⟨CoC.one (b0j (ax9 h0)), CoC.refl _, trivial⟩)
 ·
  have h0 := r0
  have h0 := of_decide_eq_true (aw h0)
  try simp only [ty] at h0
  refine aa ?_; refine a7 ?_
  have hv := cr h0
  refine gy ?_; (iterate 3 refine qy ?_); refine rc rfl rfl rfl rfl rfl rfl asz (aty n l hv.1 hv.2.1) (CoL.refl _) rfl rfl ?_; refine rc rfl rfl rfl rfl rfl rfl awk (apr n l h0) (CoL.refl _) rfl rfl ?_
  (iterate 2 refine qy ?_); refine a6 ?_
  exact hx8 rfl rfl rfl (⟨CoC.one (CoP.of_eq (by rw [af8 h0])), cci h0.symm, trivial⟩)
theorem aut : goodFn Tryz.prog 129 := ⟨Tryz.f129, Tryz.func129, by kernel_rfl, by kernel_rfl⟩
theorem av7 (n : Int) (l : List Fd) : ah Tryz.prog 129 [pI n, pP (fdl l)] (ap [pA (orL (d5 n l)), pI (av n l)]) := by
 refine ag (nt := 29) af Tryz.func129 rfl rfl l9 ?_; refine sx7 ?_; (iterate 2 refine qy ?_); refine a6 ?_; refine sx7 ?_; (iterate 2 refine qy ?_)
 refine rc rfl rfl rfl rfl rfl rfl af4 (arw n l) (CoL.refl _) rfl rfl ?_; (iterate 5 refine qy ?_); refine a6 ?_; refine a7 ?_
 have hkl := a8c n l
 refine gy ?_; refine qy ?_; refine a6 ?_; refine a7 ?_; refine sx7 ?_; (iterate 3 refine qy ?_); refine a6 ?_; refine ae ?_
 refine ai (ι := Nat) ⟨[(7, some _), (17, some _), (18, some _)], []⟩ ⟨⟨c9, c9, c9, trivial⟩, trivial⟩ (fun i => ⟨[(8, some (vA (orL ((d5 n l).take i)))), (19, some (vI i))], []⟩) (fun i => i ≤ (d5 n l).length) (fun i => (d5 n l).length - i) (0) (Nat.zero_le _) ⟨⟨zy, zy, trivial⟩, trivial⟩ ?_
 rintro i hi
 refine sx7 ?_; refine qy ?_; refine a6 ?_; refine a7 ?_; refine a8 _ rfl (fun r0 => ?_) (fun r0 => ?_)
 ·
  have h0 := of_decide_eq_true r0
  try simp only [ty] at h0
  refine aa ?_; refine a7 ?_; refine ae ?_; refine sx7 ?_; (iterate 3 refine qy ?_); refine a6 ?_; refine gy ?_; (iterate 4 refine qy ?_); refine a6 ?_; refine gy ?_; (iterate 2 refine qy ?_)
  refine a6 ?_; refine ⟨i + 1, ?_, ?_, ?_⟩
  · show i + 1 ≤ _; omega
  · first | omega | (dsimp only; omega)
  · exact ⟨⟨⟨_, rfl, (c8 (by rw [bOr, yf (by omega)]; rfl))⟩, zy, c9, c9, c9, trivial⟩, trivial⟩
 ·
  have h0 := of_decide_eq_false r0
  try simp only [ty] at h0
  obtain rfl : i = (d5 n l).length := by omega
  refine ak ?_; refine sx7 ?_; (iterate 4 refine qy ?_); refine a6 ?_
  exact hx8 rfl rfl rfl (⟨cci (by rw [List.take_length]), CoC.refl _, trivial⟩)
end Go.Hx
end
section
namespace Go.Hx
def py (s : AS) : Nat → AS → List AS
 | 0, _ => []
 | n + 1, x => if x = 0 then [] else x :: py s n ((x - 1) &&& s)
def dx (s : AS) : List AS := 0 :: py s (s.toNat + 1) s
theorem sub_zero (s : AS) : sub 0 s := az.2 fun i hi h => by simp at h
theorem a8b {s : AS} : ∀ (n : Nat) (x : AS), sub x s → x.toNat < n → ∀ z, z ∈ py s n x ↔ sub z s ∧ z ≠ 0 ∧ z.toNat ≤ x.toNat
 | 0, x, _, h, z => absurd h (Nat.not_lt_zero _)
 | n + 1, x, hx, h, z => by
  unfold py
  by_cases h0 : x = 0
  · rw [if_pos h0]
    subst h0
    constructor
    · intro h; cases h
    · rintro ⟨_, h1, h2⟩
      exact absurd (BitVec.eq_of_toNat_eq (Nat.le_antisymm h2 (Nat.zero_le _))) h1
  · rw [if_neg h0, List.mem_cons, a8b n _ aql (by have := a7z (s := s) h0; omega)]
    constructor
    · rintro (rfl | ⟨h1, h2, h3⟩)
      · exact ⟨hx, h0, Nat.le_refl _⟩
      · have := a7z (s := s) h0
        exact ⟨h1, h2, by omega⟩
    · rintro ⟨h1, h2, h3⟩
      by_cases he : z = x
      · exact .inl he
      · have hne : z.toNat ≠ x.toNat := fun e => he (BitVec.eq_of_toNat_eq e)
        exact .inr ⟨h1, h2, apv hx h1 (by omega)⟩
theorem kg {s z : AS} : z ∈ dx s ↔ sub z s := by
 unfold dx
 rw [List.mem_cons, a8b _ _ (sub_self s) (Nat.lt_succ_self _)]
 constructor
 · rintro (rfl | h)
   · exact sub_zero s
   · exact h.1
 · intro h
   by_cases h0 : z = 0
   · exact .inl h0
   · exact .inr ⟨h, h0, a4b h⟩
def TsI (s : AS) (x : Nat × List AS × AS) : Prop := x.2.1 ++ py s x.1 x.2.2 = dx s ∧ x.2.2.toNat < x.1 ∧ x.2.1.length + x.1 = s.toNat + 2
theorem auu (s : AS) : TsI s (s.toNat + 1, [0], s) := ⟨rfl, Nat.lt_succ_self _, by dsimp only; rw [List.length_singleton]; omega⟩
theorem ax3 {s : AS} {x : Nat × List AS × AS} (h : TsI s x) (h0 : x.2.2 ≠ 0) : TsI s (x.1 - 1, x.2.1 ++ [x.2.2], (x.2.2 - 1) &&& s) := by
 obtain ⟨h1, h2, h3⟩ := h
 obtain ⟨n, hn⟩ : ∃ n, x.1 = n + 1 := ⟨x.1 - 1, by omega⟩
 have hl := a7z (s := s) h0
 refine ⟨?_, by dsimp only; omega, by dsimp only; rw [List.length_append, List.length_singleton]; omega⟩
 rw [← h1, hn]
 show (x.2.1 ++ [x.2.2]) ++ py s n _ = _
 rw [List.append_assoc]
 conv => rhs; unfold py
 rw [if_neg h0]
 rfl
theorem axz {s : AS} {x : Nat × List AS × AS} (h : TsI s x) (h0 : x.2.2 = 0) : x.2.1 = dx s := by
 obtain ⟨h1, h2, h3⟩ := h
 obtain ⟨n, hn⟩ : ∃ n, x.1 = n + 1 := ⟨x.1 - 1, by omega⟩
 rw [← h1, hn]
 unfold py
 rw [if_pos h0, List.append_nil]
theorem a8u (s : AS) : (dx s).length ≤ 4294967297 := by
 have : ∀ n x, (py s n x).length ≤ n := by
  intro n
  induction n with
  | zero => intro x; exact Nat.le_refl _
  | succ n ih =>
   intro x
   unfold py
   split
   · simp
   · rw [List.length_cons]; have := ih ((x - 1) &&& s); omega
 have h1 := this (s.toNat + 1) s
 have := s.isLt
 unfold dx
 rw [List.length_cons]
 omega
theorem aym {r : AS} (h : r ≠ 0) : r &&& (-r) = (1 : AS) <<< en r := by
 obtain ⟨h1, h2, h3, h4⟩ := me h
 have e : -r = ~~~(r - 1) := by
  apply BitVec.eq_of_toNat_eq
  have h0 : r.toNat ≠ 0 := fun e => h (BitVec.eq_of_toNat_eq e)
  have := r.isLt
  rw [BitVec.toNat_neg, BitVec.toNat_not, y4 h]
  omega
 rw [e]
 apply BitVec.eq_of_getLsbD_eq
 intro i hi
 have h5 := congrArg (fun z : AS => z.getLsbD i) h4
 simp only [BitVec.getLsbD_and, BitVec.getLsbD_not, decide_eq_true hi, Bool.true_and] at h5
 have h6 : ((1 : AS) <<< en r).getLsbD i = decide (i = en r) := eg _ i hi
 rw [BitVec.getLsbD_and, BitVec.getLsbD_not, decide_eq_true hi, Bool.true_and, h6]
 rw [h6] at h5
 by_cases hl : i = en r
 · subst hl
   rw [h2] at h5 ⊢
   simpa using h5
 · rw [decide_eq_false hl] at h5 ⊢
   cases hr : r.getLsbD i <;> rw [hr] at h5 <;> simpa using h5
theorem art (r : AS) (h : r ≠ 0) {a : Int} (ha : a = IntKind.wrap .u32 (0 - asI r)) : ca .and .u32 (asI r) a = asI ((1 : AS) <<< en r) := by
 have e : a = asI (-r) := by
  rw [ha]
  have h0 : r.toNat ≠ 0 := fun e => h (BitVec.eq_of_toNat_eq e)
  have := r.isLt
  unfold asI
  rw [BitVec.toNat_neg]
  simp only [IntKind.wrap, IntKind.signed, IntKind.bits]
  simp
  omega
 rw [e, o8, aym h]
def go (l : List Fd) (p s : AS) : Bool := decide (sub p (clo l s))
theorem mt {l : List Fd} {p s : AS} : decide (ca .and .u32 (asI (clo l s)) (asI p) = asI p) = go l p s := by
 rw [o8, a5j]
 unfold go
 refine decide_eq_decide.2 ⟨fun e => ?_, fun e => ?_⟩
 · rw [← e]; exact d8
 · refine df kn (kc e (dh p))
def pk (l : List Fd) (p x : AS) : Bool := (List.range 32).all fun a => !(x.getLsbD a && go l p (noA x a))
theorem axs {l : List Fd} {p x : AS} {a : Nat} (ha : a < 32) (h : x.getLsbD a = true) (h2 : go l p (noA x a) = true) : pk l p x = false := by
 unfold pk
 rw [List.all_eq_false]
 exact ⟨a, List.mem_range.2 ha, by rw [h, h2]; decide⟩
theorem akm {l : List Fd} {p x : AS} (h2 : ∀ a, a < 32 → x.getLsbD a = true → go l p (noA x a) = false) : pk l p x = true := by
 unfold pk
 rw [List.all_eq_true]
 intro a ha
 cases hx : x.getLsbD a with
 | false => rfl
 | true => rw [h2 a (List.mem_range.1 ha) hx]; rfl
def a69 (l : List Fd) (p x r : AS) : Prop := sub r x ∧ ∀ a, a < 32 → x.getLsbD a = true → r.getLsbD a = true ∨ go l p (noA x a) = false
theorem apb (l : List Fd) (p x : AS) : a69 l p x x := ⟨dh x, fun a _ h => .inl h⟩
theorem axh {l : List Fd} {p x r : AS} (h : a69 l p x r) (h0 : r ≠ 0) : en r < 32 ∧ x.getLsbD (en r) = true := by
 obtain ⟨h1, h2, _, _⟩ := me h0
 exact ⟨h1, az.1 h.1 _ h1 h2⟩
theorem ap0 {l : List Fd} {p x r : AS} (h : a69 l p x r) (h0 : r ≠ 0) (hf : go l p (noA x (en r)) = false) : a69 l p x (r &&& (r - 1)) := by
 obtain ⟨h1, h2, h3, h4⟩ := me h0
 rw [h4]
 refine ⟨b6 d8 h.1, fun a ha hx => ?_⟩
 rcases h.2 a ha hx with h5 | h5
 · by_cases hl : a = en r
   · subst hl; exact .inr hf
   · refine .inl ?_
     have h6 : ((1 : AS) <<< en r).getLsbD a = decide (a = en r) := eg _ a ha
     rw [BitVec.getLsbD_and, BitVec.getLsbD_not, decide_eq_true ha, Bool.true_and, h5, h6, decide_eq_false hl]
     rfl
 · exact .inr h5
theorem avp {l : List Fd} {p x r : AS} (h : a69 l p x r) (h0 : r = 0) : pk l p x = true := akm fun a ha hx => by
 rcases h.2 a ha hx with h5 | h5
 · subst h0; simp at h5
 · exact h5
theorem al4 {r : AS} (h : r ≠ 0) : (r &&& (r - 1)).toNat < r.toNat := by
 have h1 := y4 h
 have h0 : r.toNat ≠ 0 := fun e => h (BitVec.eq_of_toNat_eq e)
 rw [BitVec.toNat_and, h1]
 have : (r.toNat &&& (r.toNat - 1)) ≤ r.toNat - 1 := Nat.and_le_right
 omega
def ou (l : List Fd) (p x : AS) : Bool := go l p x && pk l p x
def fm (l : List Fd) (p : AS) : AS := orL ((dx p).filter (ou l p))
theorem sq {k : Nat} : ∀ {ps : List AS} {s : AS}, (ps.foldl (· ||| ·) s).getLsbD k = (s.getLsbD k || ps.any fun x => x.getLsbD k)
 | [], s => by simp
 | x :: ps, s => by
  rw [List.foldl_cons, sq, BitVec.getLsbD_or, List.any_cons, Bool.or_assoc]
theorem adm {a b : List AS} (h : ∀ z, z ∈ a ↔ z ∈ b) : orL a = orL b := by
 apply BitVec.eq_of_getLsbD_eq
 intro i hi
 unfold orL
 rw [sq, sq]
 congr 1
 rw [Bool.eq_iff_iff, List.any_eq_true, List.any_eq_true]
 exact ⟨fun ⟨x, h1, h2⟩ => ⟨x, (h x).1 h1, h2⟩, fun ⟨x, h1, h2⟩ => ⟨x, (h x).2 h1, h2⟩⟩
def oc (l : List Fd) (p : AS) (i : Nat) : AS := orL (((dx p).take i).filter (ou l p))
theorem aez (a : List AS) (x : AS) : orL (a ++ [x]) = orL a ||| x := by unfold orL; rw [List.foldl_append]; rfl
theorem a3l {l : List Fd} {p : AS} {i : Nat} (hi : i < (dx p).length) (h : ou l p ((dx p).getD i default) = true) : oc l p (i + 1) = oc l p i ||| (dx p).getD i default := by
 unfold oc
 rw [bt hi, List.filter_append]
 simp only [List.filter_cons, h, if_true, List.filter_nil]
 exact aez _ _
theorem pb {l : List Fd} {p : AS} {i : Nat} (hi : i < (dx p).length) (h : ou l p ((dx p).getD i default) = false) : oc l p (i + 1) = oc l p i := by
 unfold oc
 rw [bt hi, List.filter_append]
 simp only [List.filter_cons, h, Bool.false_eq_true, if_false, List.filter_nil, List.append_nil]
theorem ahp (l : List Fd) (p : AS) : oc l p (dx p).length = fm l p := by unfold oc fm; rw [List.take_length]
theorem a01 {l : List Fd} {p x : AS} (h : go l p x = true) (h2 : pk l p x = true) : ou l p x = true := by unfold ou; rw [h, h2]; rfl
theorem a19 {l : List Fd} {p x : AS} (h : go l p x = false) : ou l p x = false := by unfold ou; rw [h]; rfl
theorem a1b {l : List Fd} {p x : AS} (h : pk l p x = false) : ou l p x = false := by unfold ou; rw [h]; simp
end Go.Hx
end
section
namespace Go.Hx
open Go.Proofs
set_option maxRecDepth 100000
theorem af3 : goodFn Tryz.prog 133 := ⟨Tryz.f133, Tryz.func133, by kernel_rfl, by kernel_rfl⟩
theorem ajp (s : AS) : ah Tryz.prog 133 [pA s] (ap [pP (asl (dx s))]) := by
 refine ag (nt := 18) af Tryz.func133 rfl rfl l9 ?_; refine sx7 ?_; refine qy ?_; refine a6 ?_; refine sx7 ?_; refine m9 0 ?_; refine qy ?_; refine a6 ?_; refine a7 ?_; refine sx7 ?_; (iterate 2 refine qy ?_)
 refine a6 ?_; refine ae ?_
 refine ai (ι := Nat × List AS × AS) ⟨[(0, some _)], []⟩ ⟨⟨c9, trivial⟩, trivial⟩ (fun x => ⟨[(3, some (.v (.one (.ref 0 x.2.1.length)))), (4, some (vA x.2.2))], [(0, some (.arr true 1 38 x.2.1.length (lf sC x.2.1)))]⟩) (fun x => TsI s x) (fun x => x.1) ((s.toNat + 1, [0], s)) (auu s) ⟨⟨zy, zy, trivial⟩, ⟨⟨_, rfl, (aoz (CoP.refl _))⟩, trivial⟩⟩ ?_
 rintro x hx
 have hlen := hx.2
 have hsl := s.isLt
 refine a7 ?_; refine sx7 ?_; (iterate 2 refine qy ?_); refine a6 ?_; refine a8 _ rfl (fun r0 => ?_) (fun r0 => ?_)
 ·
  have h0 := r0
  have h0 := of_decide_eq_false (ax h0)
  try simp only [ty] at h0
  have hne : x.2.2 ≠ 0 := fun e => h0 (by rw [e]; rfl)
  refine aa ?_; refine a7 ?_; refine ae ?_; refine gy ?_; (iterate 2 refine qy ?_); refine m9 1 ?_; refine ra 2 true rfl rfl rfl rfl rfl rfl ?_; refine qy ?_; refine a6 ?_; refine gy ?_; refine qy ?_
  refine rq rfl rfl rfl rfl rfl ?_ (hp := (xb hne)); (iterate 3 refine qy ?_); refine a6 ?_; refine ⟨(x.1 - 1, x.2.1 ++ [x.2.2], (x.2.2 - 1) &&& s), ?_, ?_, ?_⟩
  · exact ax3 hx hne
  · dsimp only
    omega
  · exact ⟨⟨⟨_, rfl, (dc rfl)⟩, ⟨_, rfl, (c8 (ank hne))⟩, c9, trivial⟩, ⟨⟨_, rfl, (ew rfl (CoP.refl _))⟩, trivial⟩⟩
 ·
  have h0 := r0
  have h0 := of_decide_eq_true (aw h0)
  try simp only [ty] at h0
  have hz : x.2.2 = 0 := db.1 h0
  refine ak ?_; refine sx7 ?_; (iterate 2 refine qy ?_); refine a6 ?_; refine br 2 rfl rfl rfl ?_
  exact hx8 rfl rfl rfl (⟨CoC.one (CoP.of_eq (by rw [← axz hx hz]; rfl)), trivial⟩)
theorem atu : goodFn Tryz.prog 169 := ⟨Tryz.f169, Tryz.func169, by kernel_rfl, by kernel_rfl⟩
theorem b23 (l : List Fd) (p x : AS) : ah Tryz.prog 169 [pP (fdl l), pA p, pA x] (ap [pB (pk l p x)]) := by
 refine ag (nt := 27) af Tryz.func169 rfl rfl l9 ?_; refine sx7 ?_; refine qy ?_; refine a6 ?_; refine a7 ?_; refine sx7 ?_; (iterate 2 refine qy ?_); refine a6 ?_; refine ae ?_
 refine ai (ι := AS) ⟨[(0, some _), (1, some _), (2, some _)], []⟩ ⟨⟨c9, c9, c9, trivial⟩, trivial⟩ (fun r => ⟨[(7, some (vA r))], []⟩) (fun r => a69 l p x r) (fun r => r.toNat) (x) (apb l p x) ⟨⟨zy, trivial⟩, trivial⟩ ?_
 rintro r hr
 refine a7 ?_; refine sx7 ?_; (iterate 2 refine qy ?_); refine a6 ?_; refine a8 _ rfl (fun r0 => ?_) (fun r0 => ?_)
 ·
  have h0 := r0
  have h0 := of_decide_eq_false (ax h0)
  try simp only [ty] at h0
  have hne : r ≠ 0 := fun e => h0 (by rw [e]; rfl)
  have hlow := axh hr hne
  refine aa ?_; refine a7 ?_; refine ae ?_; refine sx7 ?_; (iterate 4 refine qy ?_); refine rqw rfl rfl rfl rfl rfl ?_; (iterate 2 refine qy ?_)
  refine rc rfl rfl rfl rfl rfl rfl mb (ot l (noA x (en r))) (⟨CoC.refl _, cci (by rw [art r hne rfl, zp]; rfl), trivial⟩) rfl rfl ?_; (iterate 4 refine qy ?_); refine a6 ?_
  refine a8 _ rfl (fun r1 => ?_) (fun r1 => ?_)
  ·
   have h1 := of_decide_eq_true r1
   try simp only [ty] at h1
   refine sx7 ?_; refine qy ?_; refine a6 ?_
   exact hx8 rfl rfl rfl (⟨ccb (axs hlow.1 hlow.2 (mt.symm.trans (decide_eq_true (by assumption)))).symm, trivial⟩)
  ·
   have h1 := of_decide_eq_false r1
   try simp only [ty] at h1
   refine aa ?_; refine gy ?_; (iterate 2 refine qy ?_); refine rq rfl rfl rfl rfl rfl ?_ (hp := (xb hne)); (iterate 2 refine qy ?_); refine a6 ?_; refine ⟨r &&& (r - 1), ?_, ?_, ?_⟩
   · exact ap0 hr hne (mt.symm.trans (decide_eq_false (by assumption)))
   · exact al4 hne
   · exact ⟨⟨⟨_, rfl, (c8 (a3y hne))⟩, c9, c9, c9, trivial⟩, trivial⟩
 ·
  have h0 := r0
  have h0 := of_decide_eq_true (aw h0)
  try simp only [ty] at h0
  have hz : r = 0 := db.1 h0
  refine ak ?_; refine sx7 ?_; refine qy ?_; refine a6 ?_
  exact hx8 rfl rfl rfl (⟨ccb (avp hr hz).symm, trivial⟩)
theorem avs : goodFn Tryz.prog 132 := ⟨Tryz.f132, Tryz.func132, by kernel_rfl, by kernel_rfl⟩
theorem av5 (l : List Fd) (p : AS) : ah Tryz.prog 132 [pP (fdl l), pA p] (ap [pA (fm l p)]) := by
 refine ag (nt := 33) af Tryz.func132 rfl rfl l9 ?_; refine sx7 ?_; refine qy ?_; refine a6 ?_; refine sx7 ?_; refine qy ?_; refine a6 ?_; (iterate 2 refine a7 ?_)
 have htl := a8u p
 refine gy ?_; refine qy ?_; refine rc rfl rfl rfl rfl rfl rfl af3 (ajp p) (CoL.refl _) rfl rfl ?_; (iterate 2 refine qy ?_); refine a6 ?_; refine ae ?_
 refine ai (ι := Nat) ⟨[(0, some _), (1, some _), (9, some _), (10, some _)], []⟩ ⟨⟨c9, c9, c9, c9, trivial⟩, trivial⟩ (fun i => ⟨[(5, some (vA (oc l p i))), (11, some (vI i))], []⟩) (fun i => i ≤ (dx p).length) (fun i => (dx p).length - i) (0) (Nat.zero_le _) ⟨⟨⟨_, rfl, (c8 rfl)⟩, zy, trivial⟩, trivial⟩ ?_
 rintro i hi
 refine sx7 ?_; refine qy ?_; refine a6 ?_; refine a7 ?_; refine a8 _ rfl (fun r0 => ?_) (fun r0 => ?_)
 ·
  have h0 := of_decide_eq_true r0
  try simp only [ty] at h0
  refine aa ?_; refine a7 ?_; refine ae ?_; refine sx7 ?_; (iterate 3 refine qy ?_); refine a6 ?_; refine sx7 ?_; (iterate 2 refine qy ?_)
  refine rc rfl rfl rfl rfl rfl rfl mb (ot l ((dx p).getD i default)) (CoL.refl _) rfl rfl ?_; (iterate 5 refine qy ?_); refine bc rfl rfl (fun r1 => ?_) (fun r1 => ?_)
  ·
   have h1 := of_decide_eq_true r1
   try simp only [ty] at h1
   (iterate 3 refine qy ?_ (hg := (gtt r1))); refine rc rfl rfl rfl rfl rfl rfl atu (b23 l p ((dx p).getD i default)) (CoL.refl _) rfl (gtt r1) ?_; refine qy ?_; refine a6 ?_
   refine a8 _ rfl (fun r2 => ?_) (fun r2 => ?_)
   ·
    have h2 := r2
    have h2 := cj r1 h2
    refine gy ?_; (iterate 4 refine qy ?_); refine a6 ?_; refine gy ?_; (iterate 2 refine qy ?_); refine a6 ?_; refine ⟨i + 1, ?_, ?_, ?_⟩
    · show i + 1 ≤ _; omega
    · first | omega | (dsimp only; omega)
    · exact ⟨⟨⟨_, rfl, (by first | exact c8 (by rw [bOr, a3l (by omega) (a01 (mt.symm.trans (decide_eq_true (by assumption))) (by assumption))]; rfl) | exact c8 (by rw [pb (by omega) (a1b (by assumption))]) | exact c8 (by rw [pb (by omega) (a19 (mt.symm.trans (decide_eq_false (by assumption))))]))⟩, zy, c9, c9, c9, c9, trivial⟩, trivial⟩
   ·
    have h2 := r2
    have h2 := cj r1 h2
    refine aa ?_; refine gy ?_; (iterate 2 refine qy ?_); refine a6 ?_; refine ⟨i + 1, ?_, ?_, ?_⟩
    · show i + 1 ≤ _; omega
    · first | omega | (dsimp only; omega)
    · exact ⟨⟨⟨_, rfl, (by first | exact c8 (by rw [bOr, a3l (by omega) (a01 (mt.symm.trans (decide_eq_true (by assumption))) (by assumption))]; rfl) | exact c8 (by rw [pb (by omega) (a1b (by assumption))]) | exact c8 (by rw [pb (by omega) (a19 (mt.symm.trans (decide_eq_false (by assumption))))]))⟩, zy, c9, c9, c9, c9, trivial⟩, trivial⟩
  ·
   have h1 := of_decide_eq_false r1
   try simp only [ty] at h1
   (iterate 4 refine k9 (gft r1) ?_); refine rq rfl rfl rfl rfl rfl ?_ (hp := r1); refine a6 ?_; refine a8 _ rfl (fun e => by cases e) (fun _ => ?_); refine aa ?_; refine gy ?_; (iterate 2 refine qy ?_)
   refine a6 ?_; refine ⟨i + 1, ?_, ?_, ?_⟩
   · show i + 1 ≤ _; omega
   · first | omega | (dsimp only; omega)
   · exact ⟨⟨⟨_, rfl, (by first | exact c8 (by rw [bOr, a3l (by omega) (a01 (mt.symm.trans (decide_eq_true (by assumption))) (by assumption))]; rfl) | exact c8 (by rw [pb (by omega) (a1b (by assumption))]) | exact c8 (by rw [pb (by omega) (a19 (mt.symm.trans (decide_eq_false (by assumption))))]))⟩, zy, c9, c9, c9, c9, trivial⟩, trivial⟩
 ·
  have h0 := of_decide_eq_false r0
  try simp only [ty] at h0
  obtain rfl : i = (dx p).length := by omega
  refine ak ?_; refine sx7 ?_; (iterate 2 refine qy ?_); refine a6 ?_
  exact hx8 rfl rfl rfl (⟨cci (by rw [ahp]), trivial⟩)
end Go.Hx
end
section
namespace Go.Hx
def th (l : List Fd) (p x : AS) (a : Nat) : Bool := (List.range a).all fun b => !(x.getLsbD b && go l p (noA x b))
theorem yz (l : List Fd) (p x : AS) (a : Nat) : th l p x (a + 1) = (th l p x a && !(x.getLsbD a && go l p (noA x a))) := by
 unfold th
 rw [List.range_succ, List.all_append]
 simp only [List.all_cons, List.all_nil, Bool.and_true]
theorem aan {l : List Fd} {p x : AS} {a : Nat} (ha : a < 32) (h : cn x a = true) (h2 : go l p (noA x a) = true) : th l p x (a + 1) = false := by
 rw [ff ha] at h
 rw [yz, h, h2]; simp
theorem a80 {l : List Fd} {p x : AS} {a : Nat} (ha : a < 32) (h : cn x a = false) : th l p x (a + 1) = th l p x a := by
 rw [ff ha] at h
 rw [yz, h]; simp
theorem a6w {l : List Fd} {p x : AS} {a : Nat} (h : go l p (noA x a) = false) : th l p x (a + 1) = th l p x a := by
 rw [yz, h]; simp
def a2z (i : Nat) : List AS := (List.range i).map (BitVec.ofNat 32)
theorem a9m (i : Nat) : a2z (i + 1) = a2z i ++ [BitVec.ofNat 32 i] := by unfold a2z; rw [List.range_succ, List.map_append]; rfl
def prQ (l : List Fd) (p x : AS) : Bool := decide (sub x p) && ou l p x
def gv (l : List Fd) (p : AS) (i : Nat) : AS := orL ((a2z i).filter (prQ l p))
theorem aoc {l : List Fd} {p : AS} {i : Nat} (h : sub (BitVec.ofNat 32 i) p) (h2 : go l p (BitVec.ofNat 32 i) = true) (h3 : pk l p (BitVec.ofNat 32 i) = true) : gv l p (i + 1) = gv l p i ||| BitVec.ofNat 32 i := by
 have e : prQ l p (BitVec.ofNat 32 i) = true := by unfold prQ; rw [decide_eq_true h, a01 h2 h3]; rfl
 unfold gv
 rw [a9m, List.filter_append]
 simp only [List.filter_cons, e, if_true, List.filter_nil]
 exact aez _ _
theorem a3k {l : List Fd} {p : AS} {i : Nat} (e : prQ l p (BitVec.ofNat 32 i) = false) : gv l p (i + 1) = gv l p i := by
 unfold gv
 rw [a9m, List.filter_append]
 simp only [List.filter_cons, e, Bool.false_eq_true, if_false, List.filter_nil, List.append_nil]
theorem b19 {l : List Fd} {p x : AS} (h : ¬ sub x p) : prQ l p x = false := by unfold prQ; rw [decide_eq_false h]; rfl
theorem b14 {l : List Fd} {p x : AS} (h : go l p x = false) : prQ l p x = false := by unfold prQ; rw [a19 h]; simp
theorem b1h {l : List Fd} {p x : AS} (h : pk l p x = false) : prQ l p x = false := by unfold prQ; rw [a1b h]; simp
theorem acr {i : Nat} {x : AS} (hi : i ≤ 4294967296) : x ∈ a2z i ↔ x.toNat < i := by
 unfold a2z
 rw [List.mem_map]
 constructor
 · rintro ⟨k, hk, rfl⟩
   rw [List.mem_range] at hk
   rw [BitVec.toNat_ofNat, Nat.mod_eq_of_lt (by omega)]
   exact hk
 · intro h
   exact ⟨x.toNat, List.mem_range.2 h, by rw [BitVec.ofNat_toNat, BitVec.setWidth_eq]⟩
theorem ah2 {l : List Fd} {p : AS} {i : Nat} (hp : i = p.toNat + 1) : gv l p i = fm l p := by
 have := p.isLt
 unfold gv fm
 refine adm fun z => ?_
 rw [List.mem_filter, List.mem_filter, acr (by omega), kg]
 unfold prQ
 rw [Bool.and_eq_true, decide_eq_true_iff]
 constructor
 · rintro ⟨_, h1, h2⟩; exact ⟨h1, h2⟩
 · rintro ⟨h1, h2⟩
   have := a4b h1
   exact ⟨by omega, h1, h2⟩
section
variable {l : List Fd} {p : AS} {i : Nat}
theorem sm (hi : i < 4294967296) : ca .andNot .u32 (i : Int) (asI p) = 0 ↔ sub (BitVec.ofNat 32 i) p := by
 rw [f5 hi]
 exact fy
theorem agw (hi : i < 4294967296) (h : ¬ ca .andNot .u32 (i : Int) (asI p) = 0) : asI (gv l p i) = asI (gv l p (i + 1)) := congrArg asI (a3k (b19 fun e => h ((sm hi).2 e))).symm
theorem aiq (h : decide (sub p (clo l (BitVec.ofNat 32 i))) = false) : asI (gv l p i) = asI (gv l p (i + 1)) := congrArg asI (a3k (b14 h)).symm
theorem ahx (h : th l p (BitVec.ofNat 32 i) 32 = false) : asI (gv l p i) = asI (gv l p (i + 1)) := congrArg asI (a3k (b1h h)).symm
theorem ahm (hi : i < 4294967296) (h1 : ca .andNot .u32 (i : Int) (asI p) = 0) (h2 : decide (sub p (clo l (BitVec.ofNat 32 i))) = true) (h3 : th l p (BitVec.ofNat 32 i) 32 = true) : ca .or .u32 (asI (gv l p i)) (i : Int) = asI (gv l p (i + 1)) := by
 rw [aoc ((sm hi).1 h1) h2 h3, f5 hi, bOr]
end
def kp (l : List Fd) (p x : AS) : Bool := !go l p x && decide (((clo l x &&& p) &&& ~~~x) &&& ~~~fm l p ≠ 0)
def ci (l : List Fd) (p : AS) : Bool := !(dx p).any (kp l p)
theorem ag9 {l : List Fd} {p : AS} (h : ∀ x, sub x p → kp l p x = false) : ci l p = true := by
 unfold ci
 have : (dx p).any (kp l p) = false := by
  rw [List.any_eq_false]
  intro x hx
  rw [h x (kg.1 hx)]
  decide
 rw [this]; rfl
theorem agf {l : List Fd} {p x : AS} (hx : sub x p) (h : kp l p x = true) : ci l p = false := by
 unfold ci
 have : (dx p).any (kp l p) = true := by
  rw [List.any_eq_true]
  exact ⟨x, kg.2 hx, h⟩
 rw [this]; rfl
theorem arz {l : List Fd} {p x : AS} : decide (ca .andNot .u32 (ca .andNot .u32 (ca .and .u32 (asI (clo l x)) (asI p)) (asI x)) (asI (fm l p)) = 0) = decide (((clo l x &&& p) &&& ~~~x) &&& ~~~fm l p = 0) := by
 rw [o8, zp, zp, show (0 : Int) = asI 0 from rfl, a5j]
theorem a06 {l : List Fd} {p x : AS} (h : go l p x = true) : kp l p x = false := by unfold kp; rw [h]; rfl
theorem zu {l : List Fd} {p x : AS} (h : ca .andNot .u32 (ca .andNot .u32 (ca .and .u32 (asI (clo l x)) (asI p)) (asI x)) (asI (fm l p)) = 0) : kp l p x = false := by
 have e := arz.symm.trans (decide_eq_true h)
 unfold kp
 rw [decide_eq_false (fun hn => hn (of_decide_eq_true e))]
 simp
theorem asi {l : List Fd} {p x : AS} (h0 : go l p x = false) (h : ¬ ca .andNot .u32 (ca .andNot .u32 (ca .and .u32 (asI (clo l x)) (asI p)) (asI x)) (asI (fm l p)) = 0) : kp l p x = true := by
 have e := arz.symm.trans (decide_eq_false h)
 unfold kp
 rw [h0, decide_eq_true (of_decide_eq_false e)]
 rfl
theorem aro {l : List Fd} {p x : AS} (h : ca .and .u32 (asI (clo l x)) (asI p) = asI p) : go l p x = true := mt.symm.trans (decide_eq_true h)
theorem b0o {l : List Fd} {p x : AS} (h : ¬ ca .and .u32 (asI (clo l x)) (asI p) = asI p) : go l p x = false := mt.symm.trans (decide_eq_false h)
theorem ade {l : List Fd} {p : AS} {i : Nat} (hi : i < 4294967296) (h : ¬ ca .andNot .u32 (i : Int) (asI p) = 0) : (decide (sub (BitVec.ofNat 32 i) p) && kp l p (BitVec.ofNat 32 i)) = false := by
 rw [decide_eq_false (fun e => h ((sm hi).2 e))]; rfl
theorem ws {l : List Fd} {p : AS} {x : AS} {b : Bool} (h : kp l p x = false) : (b && kp l p x) = false := by rw [h]; simp
theorem awz {l : List Fd} {p : AS} {i : Nat} (hi : i = p.toNat + 1) (h : ∀ j, j < i → (decide (sub (BitVec.ofNat 32 j) p) && kp l p (BitVec.ofNat 32 j)) = false) : ci l p = true := ag9 fun x hx => by
 have := h x.toNat (by have := a4b hx; omega)
 rw [BitVec.ofNat_toNat, BitVec.setWidth_eq, decide_eq_true hx, Bool.true_and] at this
 exact this
theorem anl {l : List Fd} {p : AS} (h : ∀ j, j < (dx p).length → kp l p ((dx p).getD j default) = false) : ci l p = true := ag9 fun x hx => by
 obtain ⟨j, hj, rfl⟩ := List.getElem_of_mem (kg.2 hx)
 have := h j hj
 rwa [List.getD_eq_getElem?_getD, List.getElem?_eq_getElem hj, Option.getD_some] at this
def qv (n : Int) (l : List Fd) (p : AS) : Int := if av n l = 0 then (if sub p (aq n) then 0 else 1) else av n l
def yg (n : Int) (l : List Fd) (p : AS) : Bool := decide (qv n l p = 0) && ci l p
theorem b1t {n : Int} {l : List Fd} {p : AS} (h : ¬ av n l = 0) : qv n l p = av n l ∧ yg n l p = false := by
 have e : qv n l p = av n l := if_neg h
 exact ⟨e, by unfold yg; rw [e, decide_eq_false h]; rfl⟩
theorem b0z {n : Int} {l : List Fd} {p : AS} (h : av n l = 0) (h2 : ¬ sub p (aq n)) : qv n l p = 1 ∧ yg n l p = false := by
 have e : qv n l p = 1 := by unfold qv; rw [if_pos h, if_neg h2]
 exact ⟨e, by unfold yg; rw [e]; rfl⟩
theorem arx {n : Int} {l : List Fd} {p : AS} (h : av n l = 0) (h2 : sub p (aq n)) : qv n l p = 0 ∧ yg n l p = ci l p := by
 have e : qv n l p = 0 := by unfold qv; rw [if_pos h, if_pos h2]
 exact ⟨e, by unfold yg; rw [e]; rfl⟩
end Go.Hx
end
