/- A part of the proof: Cs28 V27 Cs29 V28 Cs30 V29 Cs31. -/
import Derived.Test.YtidophngianjiaaGreatDoor9x33
set_option linter.all false
section
namespace Go.Hx
theorem ayu {i a : Nat} (hi : i < 65536) (ha : a < 16) : ca .xor .i64 (i : Int) (IntKind.wrap .i64 (1 * 2 ^ min (a : Int).toNat IntKind.i64.bits)) = ((i ^^^ 2 ^ a : Nat) : Int) := by
 have h2 : 2 ^ a ≤ 2 ^ 15 := Nat.pow_le_pow_right (by omega) (by omega)
 have h3 : i ^^^ 2 ^ a < 2 ^ 16 := Nat.xor_lt_two_pow hi (by omega)
 have e : IntKind.wrap .i64 (1 * 2 ^ min (a : Int).toNat IntKind.i64.bits) = ((2 ^ a : Nat) : Int) := by
  have := apj (n := (a : Int)) (by omega) (by omega)
  rwa [Int.toNat_natCast] at this ⊢
 rw [e]
 show IntKind.wrap .i64 ((BitVec.ofInt 64 (i : Int) ^^^ BitVec.ofInt 64 ((2 ^ a : Nat) : Int)).toNat : Int) = _
 have e1 : (BitVec.ofInt 64 (i : Int) ^^^ BitVec.ofInt 64 ((2 ^ a : Nat) : Int)).toNat = i ^^^ 2 ^ a := by
  rw [BitVec.toNat_xor, BitVec.ofInt_natCast, BitVec.ofInt_natCast, BitVec.toNat_ofNat, BitVec.toNat_ofNat, Nat.mod_eq_of_lt (by omega), Nat.mod_eq_of_lt (by omega)]
 rw [e1]
 generalize i ^^^ 2 ^ a = z at *
 exact kf (by simp only [inR, nq, pn]; omega)
theorem adt {i a j : Nat} : (i ^^^ 2 ^ a).testBit j = if j = a then !i.testBit j else i.testBit j := by
 rw [Nat.testBit_xor, Nat.testBit_two_pow]
 by_cases h : j = a
 · subst h; simp
 · rw [if_neg h, decide_eq_false (fun e => h e.symm)]; simp
theorem a4e {i k : Nat} (hk : k < 32) : (BitVec.ofNat 32 i).getLsbD k = i.testBit k := by
 rw [BitVec.getLsbD_ofNat, decide_eq_true hk, Bool.true_and]
theorem aed {i a : Nat} (ha : a < 32) (h : i.testBit a = true) : (BitVec.ofNat 32 (i ^^^ 2 ^ a) : AS) = noA (BitVec.ofNat 32 i) a := by
 apply BitVec.eq_of_getLsbD_eq
 intro k hk
 unfold noA
 rw [a4e hk, adt, BitVec.getLsbD_and, BitVec.getLsbD_not, decide_eq_true hk, Bool.true_and, a4e hk]
 have h1 : ((1 : AS) <<< a).getLsbD k = decide (k = a) := jy a k hk
 rw [h1]
 by_cases e : k = a
 · subst e
   rw [if_pos rfl, h, decide_eq_true rfl]
   rfl
 · rw [if_neg e, decide_eq_false e]
   simp
theorem ahh {i a : Nat} (hi : i < 65536) (ha : a < 16) (h : i.testBit a = true) : i ^^^ 2 ^ a < i := by
 have h3 : i ^^^ 2 ^ a < 2 ^ 16 := Nat.xor_lt_two_pow hi (Nat.pow_lt_pow_right (by omega) (by omega))
 have e := congrArg BitVec.toNat (aed (i := i) (a := a) (by omega) h)
 have hs : sub (noA (BitVec.ofNat 32 i) a) (BitVec.ofNat 32 i) := j1
 have hne : noA (BitVec.ofNat 32 i) a ≠ BitVec.ofNat 32 i := fun e => by
  have e1 := congrArg (fun z : AS => z.getLsbD a) e
  unfold noA at e1
  have h1 : ((1 : AS) <<< a).getLsbD a = decide (a = a) := jy a a (by omega)
  simp only [BitVec.getLsbD_and, BitVec.getLsbD_not, h1, a4e (show a < 32 by omega), h] at e1
  simp at e1
 have hl := sa hs hne
 rw [← e, BitVec.toNat_ofNat, BitVec.toNat_ofNat, Nat.mod_eq_of_lt (by omega), Nat.mod_eq_of_lt (by omega)] at hl
 exact hl
theorem avu {i a : Nat} (hi : i < 65536) (ha : a < 16) (h : i.testBit a = false) : i < i ^^^ 2 ^ a := by
 have h3 : i ^^^ 2 ^ a < 2 ^ 16 := Nat.xor_lt_two_pow hi (Nat.pow_lt_pow_right (by omega) (by omega))
 have hb : (i ^^^ 2 ^ a).testBit a = true := by rw [adt, if_pos rfl, h]; rfl
 have := ahh h3 ha hb
 rwa [Nat.xor_assoc, Nat.xor_self, Nat.xor_zero] at this
section
variable {n : Int} {l : List Fd}
theorem a8a (h0 : 0 ≤ n) (h1 : n ≤ 16) {i : Nat} (h : i < 2 ^ n.toNat) : sub (BitVec.ofNat 32 i) (b8 n) := cq.2 fun k hk hb => by
 rw [a4e hk] at hb
 unfold b8
 rw [kw _ k hk, Nat.min_eq_left (by omega)]
 rw [decide_eq_true_iff]
 apply Classical.byContradiction
 intro hge
 have hlt : i < 2 ^ k := Nat.lt_of_lt_of_le h (Nat.pow_le_pow_right (by omega) (by omega))
 rw [Nat.testBit_lt_two_pow hlt] at hb
 cases hb
theorem a8w (hv : az n l = 0) {i : Nat} (h : i < 2 ^ n.toNat) : gr n l (BitVec.ofNat 32 i) = nz n l i := by
 obtain ⟨h0, h1, _⟩ := d9 hv
 unfold gr nz
 exact decide_eq_decide.2 ⟨fun e => e.2.2, fun e => ⟨hv, a8a h0 h1 h, e⟩⟩
theorem a7y {a i : Nat} (h : i < 2 ^ n.toNat) (ha : a < n.toNat) : i ^^^ 2 ^ a < 2 ^ n.toNat := Nat.xor_lt_two_pow h (Nat.pow_lt_pow_right (by omega) ha)
def okA (n : Int) (l : List Fd) (i a : Nat) : Bool := nz n l i && (List.range a).all fun b => !(i.testBit b && nz n l (i ^^^ 2 ^ b))
theorem a26 (i a : Nat) : okA n l i (a + 1) = (okA n l i a && !(i.testBit a && nz n l (i ^^^ 2 ^ a))) := by
 unfold okA
 rw [List.range_succ, List.all_append]
 simp only [List.all_cons, List.all_nil, Bool.and_true, Bool.and_assoc]
theorem ad9 (hv : az n l = 0) {i : Nat} (h : i < 2 ^ n.toNat) : oo n l (BitVec.ofNat 32 i) = okA n l i n.toNat := by
 obtain ⟨h0, h1, _⟩ := d9 hv
 unfold oo okA
 rw [a8w hv h]
 congr 1
 have key : ∀ a, a < n.toNat → (!((BitVec.ofNat 32 i : AS).getLsbD a && gr n l (noA (BitVec.ofNat 32 i) a))) = !(i.testBit a && nz n l (i ^^^ 2 ^ a)) := fun a ha => by
  rw [a4e (by omega)]
  cases hb : i.testBit a with
  | false => rfl
  | true => rw [← aed (by omega) hb, a8w hv (a7y h ha)]
 rw [Bool.eq_iff_iff, List.all_eq_true, List.all_eq_true]
 exact ⟨fun hh a ha => by rw [← key a (List.mem_range.1 ha)]; exact hh a ha, fun hh a ha => by rw [key a (List.mem_range.1 ha)]; exact hh a ha⟩
theorem jn {i a : Nat} (hv : az n l = 0) (h : i < 2 ^ n.toNat) (ha : a ≤ n.toNat) (hf : okA n l i a = false) : oo n l (BitVec.ofNat 32 i) = false := by
 rw [ad9 hv h]
 have : ∀ d, okA n l i (a + d) = false := by
  intro d
  induction d with
  | zero => exact hf
  | succ d ih => rw [← Nat.add_assoc, a26, ih]; rfl
 have e := this (n.toNat - a)
 rwa [show a + (n.toNat - a) = n.toNat by omega] at e
theorem aym {i : Nat} (h : i < 2 ^ n.toNat) : ((rz n l).getD ((i : Nat) : Int).toNat default == true) = okA n l i 0 := by
 show ((rz n l).getD i default == true) = _
 rw [a2h h]
 unfold okA
 simp
section
variable {i a : Nat} (hv : az n l = 0) (hi : i < 2 ^ n.toNat) (ha : (a : Int) < n) (hx : i ^^^ 2 ^ a < 2 ^ n.toNat)
theorem ajx (hi : i < 65536) (ha : a < 16) : (decide (((i ^^^ 2 ^ a : Nat) : Int) < (i : Int)) == true) = i.testBit a := by
 cases hb : i.testBit a with
 | false =>
  have := avu hi ha hb
  rw [decide_eq_false (by omega)]; rfl
 | true =>
  have := ahh hi ha hb
  rw [decide_eq_true (by omega)]; rfl
include hv hi ha hx
theorem afp (h3 : (decide (((i ^^^ 2 ^ a : Nat) : Int) < (i : Int)) == true) = true) (h4 : ((rz n l).getD (((i ^^^ 2 ^ a : Nat) : Int)).toNat default == true) = true) : false = okA n l i (a + 1) := by
 have hv0 := d9 hv
 have hpw : 2 ^ n.toNat ≤ 2 ^ 16 := Nat.pow_le_pow_right (by omega) (by omega)
 rw [ajx (by omega) (by omega)] at h3
 have h4 : ((rz n l).getD (i ^^^ 2 ^ a) default == true) = true := h4
 rw [a2h hx] at h4
 have h4 : nz n l (i ^^^ 2 ^ a) = true := by simpa using h4
 rw [a26, h3, h4]
 simp
theorem a03 (h : (decide (((i ^^^ 2 ^ a : Nat) : Int) < (i : Int)) == true) = false ∨ ((rz n l).getD (((i ^^^ 2 ^ a : Nat) : Int)).toNat default == true) = false) : okA n l i a = okA n l i (a + 1) := by
 have hv0 := d9 hv
 have hpw : 2 ^ n.toNat ≤ 2 ^ 16 := Nat.pow_le_pow_right (by omega) (by omega)
 rw [a26]
 rcases h with h | h
 · rw [ajx (by omega) (by omega)] at h
   rw [h]; simp
 · have h4 : ((rz n l).getD (i ^^^ 2 ^ a) default == true) = false := h
   rw [a2h hx] at h4
   have h4 : nz n l (i ^^^ 2 ^ a) = false := by simpa using h4
   rw [h4]; simp
end
theorem pa {i a : Nat} (hv : az n l = 0) (hi : i < 2 ^ n.toNat) (ha : a ≤ n.toNat) (h : okA n l i a = true) (h1 : ¬ (a : Int) < n) : oo n l (BitVec.ofNat 32 i) = true := by
 rw [ad9 hv hi]
 have := (d9 hv).1
 rwa [show n.toNat = a by omega]
theorem oz {i a : Nat} (h : okA n l i a = false) (h1 : okA n l i a = true) {p : Prop} : p := by
 rw [h] at h1
 cases h1
end
end Go.Hx
end
section
namespace Go.Hx
open Go.Proofs
set_option maxRecDepth 100000
theorem au1 : goodFn Tryz.prog 167 := ⟨Tryz.f167, Tryz.func167, by kernel_rfl, by kernel_rfl⟩
theorem am6 (n : Int) (l : List Fd) (hv : az n l = 0) : ah Tryz.prog 167 [pI n, pP (psl 1 bC (rz n l)), pB true] (ap [pP (asl (ord (jf n l (2 ^ n.toNat))))]) := by
 refine ag (nt := 57) af Tryz.func167 rfl rfl l9 ?_; refine sx7 ?_; refine qy ?_; refine a6 ?_; refine a7 ?_
 have hv0 := d9 hv
 have hsl := an8 n l
 have hpw : 2 ^ n.toNat ≤ 2 ^ 16 := Nat.pow_le_pow_right (by omega) (by omega)
 refine gy ?_; refine qy ?_; refine a6 ?_; refine a7 ?_; refine sx7 ?_; (iterate 3 refine qy ?_); refine a6 ?_; refine ae ?_
 refine dm 7 900 true 1 38 (lf sC []) (by decide) rfl (CoP.sl rfl (.inr rfl) (fun h => h) (fun i j hi _ => absurd hi (Nat.not_lt_zero i))) (.inr rfl) rfl ?_
 refine ai (ι := Nat) ⟨[(0, some _), (1, some _), (2, some _), (13, some _), (14, some _)], []⟩ ⟨⟨c9, c9, c9, c9, c9, trivial⟩, trivial⟩ (fun i => ⟨[(7, some (.v (.one (.ref 900 (jf n l i).length)))), (15, some (vI i))], [(900, some (.arr true 1 38 (jf n l i).length (lf sC (jf n l i))))]⟩) (fun i => i ≤ 2 ^ n.toNat) (fun i => 2 ^ n.toNat - i) (0) (Nat.zero_le _) ⟨⟨zy, zy, trivial⟩, ⟨u9, trivial⟩⟩ ?_
 rintro i hi
 have hlen := a7a n l i
 refine sx7 ?_; refine qy ?_; refine a6 ?_; refine a7 ?_; refine a8 _ rfl (fun r0 => ?_) (fun r0 => ?_)
 ·
  have h0 := of_decide_eq_true r0
  try simp only [ty] at h0
  have hi2 : i < 2 ^ n.toNat := by omega
  refine aa ?_; refine a7 ?_; refine ae ?_; refine sx7 ?_; (iterate 5 refine qy ?_); refine a6 ?_; refine sx7 ?_; (iterate 4 refine qy ?_); refine a6 ?_; refine a7 ?_; refine sx7 ?_; refine qy ?_
  refine a6 ?_; refine ae ?_
  refine ai (ι := Nat) ⟨[(0, some _), (1, some _), (2, some _), (7, some _), (8, some _), (13, some _), (14, some _), (15, some _)], [(900, some _)]⟩ ⟨⟨c9, c9, c9, c9, c9, c9, c9, c9, trivial⟩, ⟨u9, trivial⟩⟩ (fun a => ⟨[(10, some (vB (okA n l i a))), (11, some (vI a))], []⟩) (fun a => a ≤ n.toNat) (fun a => n.toNat - a) (0) (Nat.zero_le _) ⟨⟨⟨_, rfl, (cob (aym hi2))⟩, zy, trivial⟩, trivial⟩ ?_
  rintro a ha
  refine a7 ?_; refine sx7 ?_; (iterate 4 refine qy ?_); refine aw rfl rfl (fun r1 => ?_) (fun r1 => ?_)
  ·
   have h1 := of_decide_eq_true r1
   try simp only [ty] at h1
   refine qy ?_ (hg := (gtt r1)); refine qy ?_; refine a6 ?_; refine a8 _ rfl (fun r2 => ?_) (fun r2 => ?_)
   ·
    have h2 := r2
    have h2 := c6 r1 h2
    have hx := a7y (n := n) (i := i) (a := a) (by omega) (by omega)
    refine aa ?_; refine a7 ?_; refine ae ?_; refine sx7 ?_; (iterate 5 refine qy ?_); refine a6 ?_; refine a7 ?_
    refine an1 ⟨[(0, some _), (1, some _), (2, some _), (7, some _), (8, some _), (10, some _), (11, some _), (12, some (vI ((i ^^^ 2 ^ a : Nat) : Int))), (13, some _), (14, some _), (15, some _)], [(900, some _)]⟩ ⟨⟨c9, c9, c9, c9, c9, c9, c9, ⟨_, rfl, coi (ayu (by omega) (by omega))⟩, c9, c9, c9, trivial⟩, ⟨u9, trivial⟩⟩ ?_
    refine gy ?_; (iterate 6 refine qy ?_); refine aw rfl rfl (fun r3 => ?_) (fun r3 => ?_)
    ·
     have h3 := r3
     (iterate 6 refine qy ?_ (hg := (gtt r3))); refine qy ?_; refine a6 ?_; refine a8 _ rfl (fun r4 => ?_) (fun r4 => ?_)
     ·
      have h4 := r4
      have h4 := c6 r3 h4
      refine gy ?_; refine qy ?_; refine a6 ?_; refine gy ?_; (iterate 3 refine qy ?_); refine a6 ?_; refine ⟨a + 1, ?_, ?_, ?_⟩
      · show a + 1 ≤ _; omega
      · first | omega | (dsimp only; omega)
      · exact ⟨⟨⟨_, rfl, (cob (by first | exact afp hv hi2 (by assumption) hx (by assumption) (by assumption) | exact a03 hv hi2 (by assumption) hx (.inr (by assumption)) | exact a03 hv hi2 (by assumption) hx (.inl (by assumption))))⟩, zy, c9, c9, c9, c9, c9, c9, c9, c9, trivial⟩, ⟨u9, trivial⟩⟩
     ·
      have h4 := r4
      have h4 := c6 r3 h4
      refine aa ?_; refine gy ?_; (iterate 3 refine qy ?_); refine a6 ?_; refine ⟨a + 1, ?_, ?_, ?_⟩
      · show a + 1 ≤ _; omega
      · first | omega | (dsimp only; omega)
      · exact ⟨⟨⟨_, rfl, (cob (by first | exact afp hv hi2 (by assumption) hx (by assumption) (by assumption) | exact a03 hv hi2 (by assumption) hx (.inr (by assumption)) | exact a03 hv hi2 (by assumption) hx (.inl (by assumption))))⟩, zy, c9, c9, c9, c9, c9, c9, c9, c9, trivial⟩, ⟨u9, trivial⟩⟩
    ·
     have h3 := r3
     (iterate 6 refine k9 (gft r3) ?_); refine rq rfl rfl rfl rfl rfl ?_ (hp := r3); refine a6 ?_; refine a8 _ rfl (fun e => by cases e) (fun _ => ?_); refine aa ?_; refine gy ?_; (iterate 3 refine qy ?_)
     refine a6 ?_; refine ⟨a + 1, ?_, ?_, ?_⟩
     · show a + 1 ≤ _; omega
     · first | omega | (dsimp only; omega)
     · exact ⟨⟨⟨_, rfl, (cob (by first | exact afp hv hi2 (by assumption) hx (by assumption) (by assumption) | exact a03 hv hi2 (by assumption) hx (.inr (by assumption)) | exact a03 hv hi2 (by assumption) hx (.inl (by assumption))))⟩, zy, c9, c9, c9, c9, c9, c9, c9, c9, trivial⟩, ⟨u9, trivial⟩⟩
   ·
    have h2 := r2
    have h2 := c6 r1 h2
    refine ak ?_; refine sx7 ?_; refine qy ?_; refine a6 ?_; refine a8 _ rfl (fun r5 => ?_) (fun r5 => ?_)
    ·
     have h5 := r5
     refine gy ?_; (iterate 3 refine qy ?_); refine m9 0 ?_; refine ra 1 true rfl rfl rfl rfl rfl rfl ?_; refine qy ?_; refine a6 ?_; refine gy ?_; (iterate 2 refine qy ?_); refine a6 ?_
     first | (refine ⟨i + 1, ?_, ?_, ?_⟩
              · show i + 1 ≤ _; omega
              · first | omega | (dsimp only; omega)
              · exact ⟨⟨⟨_, rfl, (df (mr (by first | exact pa hv hi2 ha (by assumption) (by assumption) | exact oz (by assumption) (by assumption))))⟩, zy, c9, c9, c9, c9, c9, trivial⟩, ⟨⟨_, rfl, (ek (mr (by first | exact pa hv hi2 ha (by assumption) (by assumption) | exact oz (by assumption) (by assumption))) (CoP.of_eq (congrArg (fun z => PV.raw (.int .u32 z)) (eq (by omega)))))⟩, trivial⟩⟩)
           | (refine ⟨i + 1, ?_, ?_, ?_⟩
              · show i + 1 ≤ _; omega
              · first | omega | (dsimp only; omega)
              · exact ⟨⟨⟨_, rfl, (f8 (mo (jn hv hi2 ha (by assumption))))⟩, zy, c9, c9, c9, c9, c9, trivial⟩, ⟨⟨_, rfl, (dp (mo (jn hv hi2 ha (by assumption))))⟩, trivial⟩⟩)
    ·
     have h5 := r5
     refine aa ?_; refine gy ?_; (iterate 2 refine qy ?_); refine a6 ?_
     first | (refine ⟨i + 1, ?_, ?_, ?_⟩
              · show i + 1 ≤ _; omega
              · first | omega | (dsimp only; omega)
              · exact ⟨⟨⟨_, rfl, (df (mr (by first | exact pa hv hi2 ha (by assumption) (by assumption) | exact oz (by assumption) (by assumption))))⟩, zy, c9, c9, c9, c9, c9, trivial⟩, ⟨⟨_, rfl, (ek (mr (by first | exact pa hv hi2 ha (by assumption) (by assumption) | exact oz (by assumption) (by assumption))) (CoP.of_eq (congrArg (fun z => PV.raw (.int .u32 z)) (eq (by omega)))))⟩, trivial⟩⟩)
           | (refine ⟨i + 1, ?_, ?_, ?_⟩
              · show i + 1 ≤ _; omega
              · first | omega | (dsimp only; omega)
              · exact ⟨⟨⟨_, rfl, (f8 (mo (jn hv hi2 ha (by assumption))))⟩, zy, c9, c9, c9, c9, c9, trivial⟩, ⟨⟨_, rfl, (dp (mo (jn hv hi2 ha (by assumption))))⟩, trivial⟩⟩)
  ·
   have h1 := of_decide_eq_false r1
   try simp only [ty] at h1
   refine k9 (gft r1) ?_; refine rq rfl rfl rfl rfl rfl ?_ (hp := r1); refine a6 ?_; refine a8 _ rfl (fun e => by cases e) (fun _ => ?_); refine ak ?_; refine sx7 ?_; refine qy ?_; refine a6 ?_
   refine a8 _ rfl (fun r6 => ?_) (fun r6 => ?_)
   ·
    have h6 := r6
    refine gy ?_; (iterate 3 refine qy ?_); refine m9 2 ?_; refine ra 3 true rfl rfl rfl rfl rfl rfl ?_; refine qy ?_; refine a6 ?_; refine gy ?_; (iterate 2 refine qy ?_); refine a6 ?_
    first | (refine ⟨i + 1, ?_, ?_, ?_⟩
             · show i + 1 ≤ _; omega
             · first | omega | (dsimp only; omega)
             · exact ⟨⟨⟨_, rfl, (df (mr (by first | exact pa hv hi2 ha (by assumption) (by assumption) | exact oz (by assumption) (by assumption))))⟩, zy, c9, c9, c9, c9, c9, trivial⟩, ⟨⟨_, rfl, (ek (mr (by first | exact pa hv hi2 ha (by assumption) (by assumption) | exact oz (by assumption) (by assumption))) (CoP.of_eq (congrArg (fun z => PV.raw (.int .u32 z)) (eq (by omega)))))⟩, trivial⟩⟩)
          | (refine ⟨i + 1, ?_, ?_, ?_⟩
             · show i + 1 ≤ _; omega
             · first | omega | (dsimp only; omega)
             · exact ⟨⟨⟨_, rfl, (f8 (mo (jn hv hi2 ha (by assumption))))⟩, zy, c9, c9, c9, c9, c9, trivial⟩, ⟨⟨_, rfl, (dp (mo (jn hv hi2 ha (by assumption))))⟩, trivial⟩⟩)
   ·
    have h6 := r6
    refine aa ?_; refine gy ?_; (iterate 2 refine qy ?_); refine a6 ?_
    first | (refine ⟨i + 1, ?_, ?_, ?_⟩
             · show i + 1 ≤ _; omega
             · first | omega | (dsimp only; omega)
             · exact ⟨⟨⟨_, rfl, (df (mr (by first | exact pa hv hi2 ha (by assumption) (by assumption) | exact oz (by assumption) (by assumption))))⟩, zy, c9, c9, c9, c9, c9, trivial⟩, ⟨⟨_, rfl, (ek (mr (by first | exact pa hv hi2 ha (by assumption) (by assumption) | exact oz (by assumption) (by assumption))) (CoP.of_eq (congrArg (fun z => PV.raw (.int .u32 z)) (eq (by omega)))))⟩, trivial⟩⟩)
          | (refine ⟨i + 1, ?_, ?_, ?_⟩
             · show i + 1 ≤ _; omega
             · first | omega | (dsimp only; omega)
             · exact ⟨⟨⟨_, rfl, (f8 (mo (jn hv hi2 ha (by assumption))))⟩, zy, c9, c9, c9, c9, c9, trivial⟩, ⟨⟨_, rfl, (dp (mo (jn hv hi2 ha (by assumption))))⟩, trivial⟩⟩)
 ·
  have h0 := of_decide_eq_false r0
  try simp only [ty] at h0
  obtain rfl : i = 2 ^ n.toNat := by omega
  refine ak ?_; refine a7 ?_; refine bq 7 rfl rfl rfl ?_; refine gy ?_; refine qy ?_; refine rc rfl rfl rfl rfl rfl rfl aaj (abo (jf n l (2 ^ n.toNat)) (by omega)) (CoL.refl _) rfl rfl ?_; refine qy ?_
  refine a6 ?_
  exact hx8 rfl rfl rfl (CoL.refl _)
end Go.Hx
end
section
namespace Go.Hx
theorem a81 (n : Int) (l : List Fd) : (d4 n l).length ≤ 65536 := by
 unfold d4
 split
 · rename_i h
   have h1 := a0n (jf n l (2 ^ n.toNat))
   have h2 := a7a n l (2 ^ n.toNat)
   have h3 := (d9 h)
   have h4 : 2 ^ n.toNat ≤ 2 ^ 16 := Nat.pow_le_pow_right (by omega) (by omega)
   omega
 · simp
end Go.Hx
end
section
namespace Go.Hx
open Go.Proofs
set_option maxRecDepth 100000
theorem ad8 : goodFn Tryz.prog 130 := ⟨Tryz.f130, Tryz.func130, by kernel_rfl, by kernel_rfl⟩
theorem aou (n : Int) (l : List Fd) : ah Tryz.prog 130 [pI n, pP (fdl l)] (ap [pP (asl (d4 n l)), pI (az n l)]) := by
 refine ag (nt := 18) af Tryz.func130 rfl rfl l9 ?_; refine sx7 ?_; (iterate 2 refine qy ?_); refine a6 ?_; refine a7 ?_; refine sx7 ?_; (iterate 2 refine qy ?_)
 refine rc rfl rfl rfl rfl rfl rfl so (sh n l) (CoL.refl _) rfl rfl ?_; refine qy ?_; refine a6 ?_; refine sx7 ?_; (iterate 2 refine qy ?_); refine a6 ?_; refine a8 _ rfl (fun r0 => ?_) (fun r0 => ?_)
 ·
  have h0 := r0
  have h0 := of_decide_eq_false (av h0)
  try simp only [ty] at h0
  refine sx7 ?_; (iterate 3 refine qy ?_); refine a6 ?_
  exact hx8 rfl rfl rfl (⟨CoC.one (ax2 (atf h0)), CoC.refl _, trivial⟩)
 ·
  have h0 := r0
  have h0 := of_decide_eq_true (au h0)
  try simp only [ty] at h0
  refine aa ?_; refine a7 ?_
  have hv := d9 h0
  refine gy ?_; (iterate 3 refine qy ?_); refine rc rfl rfl rfl rfl rfl rfl aq5 (aqn n l hv.1 hv.2.1) (CoL.refl _) rfl rfl ?_; refine rc rfl rfl rfl rfl rfl rfl au1 (am6 n l h0) (CoL.refl _) rfl rfl ?_
  (iterate 2 refine qy ?_); refine a6 ?_
  exact hx8 rfl rfl rfl (⟨CoC.one (CoP.of_eq (by rw [ae1 h0])), cci h0.symm, trivial⟩)
theorem at5 : goodFn Tryz.prog 129 := ⟨Tryz.f129, Tryz.func129, by kernel_rfl, by kernel_rfl⟩
theorem as7 (n : Int) (l : List Fd) : ah Tryz.prog 129 [pI n, pP (fdl l)] (ap [pA (orL (d4 n l)), pI (az n l)]) := by
 refine ag (nt := 29) af Tryz.func129 rfl rfl l9 ?_; refine sx7 ?_; (iterate 2 refine qy ?_); refine a6 ?_; refine sx7 ?_; (iterate 2 refine qy ?_)
 refine rc rfl rfl rfl rfl rfl rfl ad8 (aou n l) (CoL.refl _) rfl rfl ?_; (iterate 5 refine qy ?_); refine a6 ?_; refine a7 ?_
 have hkl := a81 n l
 refine gy ?_; refine qy ?_; refine a6 ?_; refine a7 ?_; refine sx7 ?_; (iterate 3 refine qy ?_); refine a6 ?_; refine ae ?_
 refine ai (ι := Nat) ⟨[(7, some _), (17, some _), (18, some _)], []⟩ ⟨⟨c9, c9, c9, trivial⟩, trivial⟩ (fun i => ⟨[(8, some (vA (orL ((d4 n l).take i)))), (19, some (vI i))], []⟩) (fun i => i ≤ (d4 n l).length) (fun i => (d4 n l).length - i) (0) (Nat.zero_le _) ⟨⟨zy, zy, trivial⟩, trivial⟩ ?_
 rintro i hi
 refine sx7 ?_; refine qy ?_; refine a6 ?_; refine a7 ?_; refine a8 _ rfl (fun r0 => ?_) (fun r0 => ?_)
 ·
  have h0 := of_decide_eq_true r0
  try simp only [ty] at h0
  refine aa ?_; refine a7 ?_; refine ae ?_; refine sx7 ?_; (iterate 3 refine qy ?_); refine a6 ?_; refine gy ?_; (iterate 4 refine qy ?_); refine a6 ?_; refine gy ?_; (iterate 2 refine qy ?_)
  refine a6 ?_; refine ⟨i + 1, ?_, ?_, ?_⟩
  · show i + 1 ≤ _; omega
  · first | omega | (dsimp only; omega)
  · exact ⟨⟨⟨_, rfl, (c5 (by rw [bOr, xg (by omega)]; rfl))⟩, zy, c9, c9, c9, trivial⟩, trivial⟩
 ·
  have h0 := of_decide_eq_false r0
  try simp only [ty] at h0
  obtain rfl : i = (d4 n l).length := by omega
  refine ak ?_; refine sx7 ?_; (iterate 4 refine qy ?_); refine a6 ?_
  exact hx8 rfl rfl rfl (⟨cci (by rw [List.take_length]), CoC.refl _, trivial⟩)
end Go.Hx
end
section
namespace Go.Hx
def om (s : AS) : Nat → AS → List AS
 | 0, _ => []
 | n + 1, x => if x = 0 then [] else x :: om s n ((x - 1) &&& s)
def dv (s : AS) : List AS := 0 :: om s (s.toNat + 1) s
theorem sub_zero (s : AS) : sub 0 s := cq.2 fun i hi h => by simp at h
theorem a7s {s : AS} : ∀ (n : Nat) (x : AS), sub x s → x.toNat < n → ∀ z, z ∈ om s n x ↔ sub z s ∧ z ≠ 0 ∧ z.toNat ≤ x.toNat
 | 0, x, _, h, z => absurd h (Nat.not_lt_zero _)
 | n + 1, x, hx, h, z => by
  unfold om
  by_cases h0 : x = 0
  · rw [if_pos h0]
    subst h0
    constructor
    · intro h; cases h
    · rintro ⟨_, h1, h2⟩
      exact absurd (BitVec.eq_of_toNat_eq (Nat.le_antisymm h2 (Nat.zero_le _))) h1
  · rw [if_neg h0, List.mem_cons, a7s n _ al2 (by have := a6i (s := s) h0; omega)]
    constructor
    · rintro (rfl | ⟨h1, h2, h3⟩)
      · exact ⟨hx, h0, Nat.le_refl _⟩
      · have := a6i (s := s) h0
        exact ⟨h1, h2, by omega⟩
    · rintro ⟨h1, h2, h3⟩
      by_cases he : z = x
      · exact .inl he
      · have hne : z.toNat ≠ x.toNat := fun e => he (BitVec.eq_of_toNat_eq e)
        exact .inr ⟨h1, h2, aln hx h1 (by omega)⟩
theorem mw {s z : AS} : z ∈ dv s ↔ sub z s := by
 unfold dv
 rw [List.mem_cons, a7s _ _ (sub_self s) (Nat.lt_succ_self _)]
 constructor
 · rintro (rfl | h)
   · exact sub_zero s
   · exact h.1
 · intro h
   by_cases h0 : z = 0
   · exact .inl h0
   · exact .inr ⟨h, h0, a3v h⟩
def TsI (s : AS) (x : Nat × List AS × AS) : Prop := x.2.1 ++ om s x.1 x.2.2 = dv s ∧ x.2.2.toNat < x.1 ∧ x.2.1.length + x.1 = s.toNat + 2
theorem as2 (s : AS) : TsI s (s.toNat + 1, [0], s) := ⟨rfl, Nat.lt_succ_self _, by dsimp only; rw [List.length_singleton]; omega⟩
theorem au3 {s : AS} {x : Nat × List AS × AS} (h : TsI s x) (h0 : x.2.2 ≠ 0) : TsI s (x.1 - 1, x.2.1 ++ [x.2.2], (x.2.2 - 1) &&& s) := by
 obtain ⟨h1, h2, h3⟩ := h
 obtain ⟨n, hn⟩ : ∃ n, x.1 = n + 1 := ⟨x.1 - 1, by omega⟩
 have hl := a6i (s := s) h0
 refine ⟨?_, by dsimp only; omega, by dsimp only; rw [List.length_append, List.length_singleton]; omega⟩
 rw [← h1, hn]
 show (x.2.1 ++ [x.2.2]) ++ om s n _ = _
 rw [List.append_assoc]
 conv => rhs; unfold om
 rw [if_neg h0]
 rfl
theorem axf {s : AS} {x : Nat × List AS × AS} (h : TsI s x) (h0 : x.2.2 = 0) : x.2.1 = dv s := by
 obtain ⟨h1, h2, h3⟩ := h
 obtain ⟨n, hn⟩ : ∃ n, x.1 = n + 1 := ⟨x.1 - 1, by omega⟩
 rw [← h1, hn]
 unfold om
 rw [if_pos h0, List.append_nil]
theorem a87 (s : AS) : (dv s).length ≤ 4294967297 := by
 have : ∀ n x, (om s n x).length ≤ n := by
  intro n
  induction n with
  | zero => intro x; exact Nat.le_refl _
  | succ n ih =>
   intro x
   unfold om
   split
   · simp
   · rw [List.length_cons]; have := ih ((x - 1) &&& s); omega
 have h1 := this (s.toNat + 1) s
 have := s.isLt
 unfold dv
 rw [List.length_cons]
 omega
theorem awt {r : AS} (h : r ≠ 0) : r &&& (-r) = (1 : AS) <<< ee r := by
 obtain ⟨h1, h2, h3, h4⟩ := l3 h
 have e : -r = ~~~(r - 1) := by
  apply BitVec.eq_of_toNat_eq
  have h0 : r.toNat ≠ 0 := fun e => h (BitVec.eq_of_toNat_eq e)
  have := r.isLt
  rw [BitVec.toNat_neg, BitVec.toNat_not, vu h]
  omega
 rw [e]
 apply BitVec.eq_of_getLsbD_eq
 intro i hi
 have h5 := congrArg (fun z : AS => z.getLsbD i) h4
 simp only [BitVec.getLsbD_and, BitVec.getLsbD_not, decide_eq_true hi, Bool.true_and] at h5
 have h6 : ((1 : AS) <<< ee r).getLsbD i = decide (i = ee r) := jy _ i hi
 rw [BitVec.getLsbD_and, BitVec.getLsbD_not, decide_eq_true hi, Bool.true_and, h6]
 rw [h6] at h5
 by_cases hl : i = ee r
 · subst hl
   rw [h2] at h5 ⊢
   simpa using h5
 · rw [decide_eq_false hl] at h5 ⊢
   cases hr : r.getLsbD i <;> rw [hr] at h5 <;> simpa using h5
theorem ap6 (r : AS) (h : r ≠ 0) {a : Int} (ha : a = IntKind.wrap .u32 (0 - asI r)) : ca .and .u32 (asI r) a = asI ((1 : AS) <<< ee r) := by
 have e : a = asI (-r) := by
  rw [ha]
  have h0 : r.toNat ≠ 0 := fun e => h (BitVec.eq_of_toNat_eq e)
  have := r.isLt
  unfold asI
  rw [BitVec.toNat_neg]
  simp only [IntKind.wrap, IntKind.signed, IntKind.bits]
  simp
  omega
 rw [e, o5, awt h]
def i9 (l : List Fd) (p s : AS) : Bool := decide (sub p (clo l s))
theorem lv {l : List Fd} {p s : AS} : decide (ca .and .u32 (asI (clo l s)) (asI p) = asI p) = i9 l p s := by
 rw [o5, a3g]
 unfold i9
 refine decide_eq_decide.2 ⟨fun e => ?_, fun e => ?_⟩
 · rw [← e]; exact j1
 · refine gh tk (nr e (fj p))
def py (l : List Fd) (p x : AS) : Bool := (List.range 32).all fun a => !(x.getLsbD a && i9 l p (noA x a))
theorem awb {l : List Fd} {p x : AS} {a : Nat} (ha : a < 32) (h : x.getLsbD a = true) (h2 : i9 l p (noA x a) = true) : py l p x = false := by
 unfold py
 rw [List.all_eq_false]
 exact ⟨a, List.mem_range.2 ha, by rw [h, h2]; decide⟩
theorem av8 {l : List Fd} {p x : AS} (h2 : ∀ a, a < 32 → x.getLsbD a = true → i9 l p (noA x a) = false) : py l p x = true := by
 unfold py
 rw [List.all_eq_true]
 intro a ha
 cases hx : x.getLsbD a with
 | false => rfl
 | true => rw [h2 a (List.mem_range.1 ha) hx]; rfl
def a6f (l : List Fd) (p x r : AS) : Prop := sub r x ∧ ∀ a, a < 32 → x.getLsbD a = true → r.getLsbD a = true ∨ i9 l p (noA x a) = false
theorem al7 (l : List Fd) (p x : AS) : a6f l p x x := ⟨fj x, fun a _ h => .inl h⟩
theorem at8 {l : List Fd} {p x r : AS} (h : a6f l p x r) (h0 : r ≠ 0) : ee r < 32 ∧ x.getLsbD (ee r) = true := by
 obtain ⟨h1, h2, _, _⟩ := l3 h0
 exact ⟨h1, cq.1 h.1 _ h1 h2⟩
theorem ano {l : List Fd} {p x r : AS} (h : a6f l p x r) (h0 : r ≠ 0) (hf : i9 l p (noA x (ee r)) = false) : a6f l p x (r &&& (r - 1)) := by
 obtain ⟨h1, h2, h3, h4⟩ := l3 h0
 rw [h4]
 refine ⟨dz j1 h.1, fun a ha hx => ?_⟩
 rcases h.2 a ha hx with h5 | h5
 · by_cases hl : a = ee r
   · subst hl; exact .inr hf
   · refine .inl ?_
     have h6 : ((1 : AS) <<< ee r).getLsbD a = decide (a = ee r) := jy _ a ha
     rw [BitVec.getLsbD_and, BitVec.getLsbD_not, decide_eq_true ha, Bool.true_and, h5, h6, decide_eq_false hl]
     rfl
 · exact .inr h5
theorem aq2 {l : List Fd} {p x r : AS} (h : a6f l p x r) (h0 : r = 0) : py l p x = true := av8 fun a ha hx => by
 rcases h.2 a ha hx with h5 | h5
 · subst h0; simp at h5
 · exact h5
theorem ah6 {r : AS} (h : r ≠ 0) : (r &&& (r - 1)).toNat < r.toNat := by
 have h1 := vu h
 have h0 : r.toNat ≠ 0 := fun e => h (BitVec.eq_of_toNat_eq e)
 rw [BitVec.toNat_and, h1]
 have : (r.toNat &&& (r.toNat - 1)) ≤ r.toNat - 1 := Nat.and_le_right
 omega
def og (l : List Fd) (p x : AS) : Bool := i9 l p x && py l p x
def ge (l : List Fd) (p : AS) : AS := orL ((dv p).filter (og l p))
theorem zx {k : Nat} : ∀ {ps : List AS} {s : AS}, (ps.foldl (· ||| ·) s).getLsbD k = (s.getLsbD k || ps.any fun x => x.getLsbD k)
 | [], s => by simp
 | x :: ps, s => by
  rw [List.foldl_cons, zx, BitVec.getLsbD_or, List.any_cons, Bool.or_assoc]
theorem aan {a b : List AS} (h : ∀ z, z ∈ a ↔ z ∈ b) : orL a = orL b := by
 apply BitVec.eq_of_getLsbD_eq
 intro i hi
 unfold orL
 rw [zx, zx]
 congr 1
 rw [Bool.eq_iff_iff, List.any_eq_true, List.any_eq_true]
 exact ⟨fun ⟨x, h1, h2⟩ => ⟨x, (h x).1 h1, h2⟩, fun ⟨x, h1, h2⟩ => ⟨x, (h x).2 h1, h2⟩⟩
def nk (l : List Fd) (p : AS) (i : Nat) : AS := orL (((dv p).take i).filter (og l p))
theorem ae0 (a : List AS) (x : AS) : orL (a ++ [x]) = orL a ||| x := by unfold orL; rw [List.foldl_append]; rfl
theorem a2o {l : List Fd} {p : AS} {i : Nat} (hi : i < (dv p).length) (h : og l p ((dv p).getD i default) = true) : nk l p (i + 1) = nk l p i ||| (dv p).getD i default := by
 unfold nk
 rw [br hi, List.filter_append]
 simp only [List.filter_cons, h, if_true, List.filter_nil]
 exact ae0 _ _
theorem o0 {l : List Fd} {p : AS} {i : Nat} (hi : i < (dv p).length) (h : og l p ((dv p).getD i default) = false) : nk l p (i + 1) = nk l p i := by
 unfold nk
 rw [br hi, List.filter_append]
 simp only [List.filter_cons, h, Bool.false_eq_true, if_false, List.filter_nil, List.append_nil]
theorem afi (l : List Fd) (p : AS) : nk l p (dv p).length = ge l p := by unfold nk ge; rw [List.take_length]
theorem a3l {l : List Fd} {p x : AS} (h : i9 l p x = true) (h2 : py l p x = true) : og l p x = true := by unfold og; rw [h, h2]; rfl
theorem a0b {l : List Fd} {p x : AS} (h : i9 l p x = false) : og l p x = false := by unfold og; rw [h]; rfl
theorem a0s {l : List Fd} {p x : AS} (h : py l p x = false) : og l p x = false := by unfold og; rw [h]; simp
end Go.Hx
end
section
namespace Go.Hx
open Go.Proofs
set_option maxRecDepth 100000
theorem ae3 : goodFn Tryz.prog 133 := ⟨Tryz.f133, Tryz.func133, by kernel_rfl, by kernel_rfl⟩
theorem ail (s : AS) : ah Tryz.prog 133 [pA s] (ap [pP (asl (dv s))]) := by
 refine ag (nt := 18) af Tryz.func133 rfl rfl l9 ?_; refine sx7 ?_; refine qy ?_; refine a6 ?_; refine sx7 ?_; refine m9 0 ?_; refine qy ?_; refine a6 ?_; refine a7 ?_; refine sx7 ?_; (iterate 2 refine qy ?_)
 refine a6 ?_; refine ae ?_
 refine ai (ι := Nat × List AS × AS) ⟨[(0, some _)], []⟩ ⟨⟨c9, trivial⟩, trivial⟩ (fun x => ⟨[(3, some (.v (.one (.ref 0 x.2.1.length)))), (4, some (vA x.2.2))], [(0, some (.arr true 1 38 x.2.1.length (lf sC x.2.1)))]⟩) (fun x => TsI s x) (fun x => x.1) ((s.toNat + 1, [0], s)) (as2 s) ⟨⟨zy, zy, trivial⟩, ⟨⟨_, rfl, (aon (CoP.refl _))⟩, trivial⟩⟩ ?_
 rintro x hx
 have hlen := hx.2
 have hsl := s.isLt
 refine a7 ?_; refine sx7 ?_; (iterate 2 refine qy ?_); refine a6 ?_; refine a8 _ rfl (fun r0 => ?_) (fun r0 => ?_)
 ·
  have h0 := r0
  have h0 := of_decide_eq_false (av h0)
  try simp only [ty] at h0
  have hne : x.2.2 ≠ 0 := fun e => h0 (by rw [e]; rfl)
  refine aa ?_; refine a7 ?_; refine ae ?_; refine gy ?_; (iterate 2 refine qy ?_); refine m9 1 ?_; refine ra 2 true rfl rfl rfl rfl rfl rfl ?_; refine qy ?_; refine a6 ?_; refine gy ?_; refine qy ?_
  refine rq rfl rfl rfl rfl rfl ?_ (hp := (xc hne)); (iterate 3 refine qy ?_); refine a6 ?_; refine ⟨(x.1 - 1, x.2.1 ++ [x.2.2], (x.2.2 - 1) &&& s), ?_, ?_, ?_⟩
  · exact au3 hx hne
  · dsimp only
    omega
  · exact ⟨⟨⟨_, rfl, (df rfl)⟩, ⟨_, rfl, (c5 (alt hne))⟩, c9, trivial⟩, ⟨⟨_, rfl, (ek rfl (CoP.refl _))⟩, trivial⟩⟩
 ·
  have h0 := r0
  have h0 := of_decide_eq_true (au h0)
  try simp only [ty] at h0
  have hz : x.2.2 = 0 := da.1 h0
  refine ak ?_; refine sx7 ?_; (iterate 2 refine qy ?_); refine a6 ?_; refine bq 2 rfl rfl rfl ?_
  exact hx8 rfl rfl rfl (⟨CoC.one (CoP.of_eq (by rw [← axf hx hz]; rfl)), trivial⟩)
theorem aui : goodFn Tryz.prog 169 := ⟨Tryz.f169, Tryz.func169, by kernel_rfl, by kernel_rfl⟩
theorem ayn (l : List Fd) (p x : AS) : ah Tryz.prog 169 [pP (fdl l), pA p, pA x] (ap [pB (py l p x)]) := by
 refine ag (nt := 27) af Tryz.func169 rfl rfl l9 ?_; refine sx7 ?_; refine qy ?_; refine a6 ?_; refine a7 ?_; refine sx7 ?_; (iterate 2 refine qy ?_); refine a6 ?_; refine ae ?_
 refine ai (ι := AS) ⟨[(0, some _), (1, some _), (2, some _)], []⟩ ⟨⟨c9, c9, c9, trivial⟩, trivial⟩ (fun r => ⟨[(7, some (vA r))], []⟩) (fun r => a6f l p x r) (fun r => r.toNat) (x) (al7 l p x) ⟨⟨zy, trivial⟩, trivial⟩ ?_
 rintro r hr
 refine a7 ?_; refine sx7 ?_; (iterate 2 refine qy ?_); refine a6 ?_; refine a8 _ rfl (fun r0 => ?_) (fun r0 => ?_)
 ·
  have h0 := r0
  have h0 := of_decide_eq_false (av h0)
  try simp only [ty] at h0
  have hne : r ≠ 0 := fun e => h0 (by rw [e]; rfl)
  have hlow := at8 hr hne
  refine aa ?_; refine a7 ?_; refine ae ?_; refine sx7 ?_; (iterate 4 refine qy ?_); refine rqw rfl rfl rfl rfl rfl ?_; (iterate 2 refine qy ?_)
  refine rc rfl rfl rfl rfl rfl rfl l7 (ng l (noA x (ee r))) (⟨CoC.refl _, cci (by rw [ap6 r hne rfl, z7]; rfl), trivial⟩) rfl rfl ?_; (iterate 4 refine qy ?_); refine a6 ?_
  refine a8 _ rfl (fun r1 => ?_) (fun r1 => ?_)
  ·
   have h1 := of_decide_eq_true r1
   try simp only [ty] at h1
   refine sx7 ?_; refine qy ?_; refine a6 ?_
   exact hx8 rfl rfl rfl (⟨ccb (awb hlow.1 hlow.2 (lv.symm.trans (decide_eq_true (by assumption)))).symm, trivial⟩)
  ·
   have h1 := of_decide_eq_false r1
   try simp only [ty] at h1
   refine aa ?_; refine gy ?_; (iterate 2 refine qy ?_); refine rq rfl rfl rfl rfl rfl ?_ (hp := (xc hne)); (iterate 2 refine qy ?_); refine a6 ?_; refine ⟨r &&& (r - 1), ?_, ?_, ?_⟩
   · exact ano hr hne (lv.symm.trans (decide_eq_false (by assumption)))
   · exact ah6 hne
   · exact ⟨⟨⟨_, rfl, (c5 (a1r hne))⟩, c9, c9, c9, trivial⟩, trivial⟩
 ·
  have h0 := r0
  have h0 := of_decide_eq_true (au h0)
  try simp only [ty] at h0
  have hz : r = 0 := da.1 h0
  refine ak ?_; refine sx7 ?_; refine qy ?_; refine a6 ?_
  exact hx8 rfl rfl rfl (⟨ccb (aq2 hr hz).symm, trivial⟩)
theorem atm : goodFn Tryz.prog 132 := ⟨Tryz.f132, Tryz.func132, by kernel_rfl, by kernel_rfl⟩
theorem aqw (l : List Fd) (p : AS) : ah Tryz.prog 132 [pP (fdl l), pA p] (ap [pA (ge l p)]) := by
 refine ag (nt := 33) af Tryz.func132 rfl rfl l9 ?_; refine sx7 ?_; refine qy ?_; refine a6 ?_; refine sx7 ?_; refine qy ?_; refine a6 ?_; (iterate 2 refine a7 ?_)
 have htl := a87 p
 refine gy ?_; refine qy ?_; refine rc rfl rfl rfl rfl rfl rfl ae3 (ail p) (CoL.refl _) rfl rfl ?_; (iterate 2 refine qy ?_); refine a6 ?_; refine ae ?_
 refine ai (ι := Nat) ⟨[(0, some _), (1, some _), (9, some _), (10, some _)], []⟩ ⟨⟨c9, c9, c9, c9, trivial⟩, trivial⟩ (fun i => ⟨[(5, some (vA (nk l p i))), (11, some (vI i))], []⟩) (fun i => i ≤ (dv p).length) (fun i => (dv p).length - i) (0) (Nat.zero_le _) ⟨⟨⟨_, rfl, (c5 rfl)⟩, zy, trivial⟩, trivial⟩ ?_
 rintro i hi
 refine sx7 ?_; refine qy ?_; refine a6 ?_; refine a7 ?_; refine a8 _ rfl (fun r0 => ?_) (fun r0 => ?_)
 ·
  have h0 := of_decide_eq_true r0
  try simp only [ty] at h0
  refine aa ?_; refine a7 ?_; refine ae ?_; refine sx7 ?_; (iterate 3 refine qy ?_); refine a6 ?_; refine sx7 ?_; (iterate 2 refine qy ?_)
  refine rc rfl rfl rfl rfl rfl rfl l7 (ng l ((dv p).getD i default)) (CoL.refl _) rfl rfl ?_; (iterate 5 refine qy ?_); refine aw rfl rfl (fun r1 => ?_) (fun r1 => ?_)
  ·
   have h1 := of_decide_eq_true r1
   try simp only [ty] at h1
   (iterate 3 refine qy ?_ (hg := (gtt r1))); refine rc rfl rfl rfl rfl rfl rfl aui (ayn l p ((dv p).getD i default)) (CoL.refl _) rfl (gtt r1) ?_; refine qy ?_; refine a6 ?_
   refine a8 _ rfl (fun r2 => ?_) (fun r2 => ?_)
   ·
    have h2 := r2
    have h2 := c6 r1 h2
    refine gy ?_; (iterate 4 refine qy ?_); refine a6 ?_; refine gy ?_; (iterate 2 refine qy ?_); refine a6 ?_; refine ⟨i + 1, ?_, ?_, ?_⟩
    · show i + 1 ≤ _; omega
    · first | omega | (dsimp only; omega)
    · exact ⟨⟨⟨_, rfl, (by first | exact c5 (by rw [bOr, a2o (by omega) (a3l (lv.symm.trans (decide_eq_true (by assumption))) (by assumption))]; rfl) | exact c5 (by rw [o0 (by omega) (a0s (by assumption))]) | exact c5 (by rw [o0 (by omega) (a0b (lv.symm.trans (decide_eq_false (by assumption))))]))⟩, zy, c9, c9, c9, c9, trivial⟩, trivial⟩
   ·
    have h2 := r2
    have h2 := c6 r1 h2
    refine aa ?_; refine gy ?_; (iterate 2 refine qy ?_); refine a6 ?_; refine ⟨i + 1, ?_, ?_, ?_⟩
    · show i + 1 ≤ _; omega
    · first | omega | (dsimp only; omega)
    · exact ⟨⟨⟨_, rfl, (by first | exact c5 (by rw [bOr, a2o (by omega) (a3l (lv.symm.trans (decide_eq_true (by assumption))) (by assumption))]; rfl) | exact c5 (by rw [o0 (by omega) (a0s (by assumption))]) | exact c5 (by rw [o0 (by omega) (a0b (lv.symm.trans (decide_eq_false (by assumption))))]))⟩, zy, c9, c9, c9, c9, trivial⟩, trivial⟩
  ·
   have h1 := of_decide_eq_false r1
   try simp only [ty] at h1
   (iterate 4 refine k9 (gft r1) ?_); refine rq rfl rfl rfl rfl rfl ?_ (hp := r1); refine a6 ?_; refine a8 _ rfl (fun e => by cases e) (fun _ => ?_); refine aa ?_; refine gy ?_; (iterate 2 refine qy ?_)
   refine a6 ?_; refine ⟨i + 1, ?_, ?_, ?_⟩
   · show i + 1 ≤ _; omega
   · first | omega | (dsimp only; omega)
   · exact ⟨⟨⟨_, rfl, (by first | exact c5 (by rw [bOr, a2o (by omega) (a3l (lv.symm.trans (decide_eq_true (by assumption))) (by assumption))]; rfl) | exact c5 (by rw [o0 (by omega) (a0s (by assumption))]) | exact c5 (by rw [o0 (by omega) (a0b (lv.symm.trans (decide_eq_false (by assumption))))]))⟩, zy, c9, c9, c9, c9, trivial⟩, trivial⟩
 ·
  have h0 := of_decide_eq_false r0
  try simp only [ty] at h0
  obtain rfl : i = (dv p).length := by omega
  refine ak ?_; refine sx7 ?_; (iterate 2 refine qy ?_); refine a6 ?_
  exact hx8 rfl rfl rfl (⟨cci (by rw [afi]), trivial⟩)
end Go.Hx
end
section
namespace Go.Hx
def s4 (l : List Fd) (p x : AS) (a : Nat) : Bool := (List.range a).all fun b => !(x.getLsbD b && i9 l p (noA x b))
theorem ya (l : List Fd) (p x : AS) (a : Nat) : s4 l p x (a + 1) = (s4 l p x a && !(x.getLsbD a && i9 l p (noA x a))) := by
 unfold s4
 rw [List.range_succ, List.all_append]
 simp only [List.all_cons, List.all_nil, Bool.and_true]
theorem aab {l : List Fd} {p x : AS} {a : Nat} (ha : a < 32) (h : cu x a = true) (h2 : i9 l p (noA x a) = true) : s4 l p x (a + 1) = false := by
 rw [fy ha] at h
 rw [ya, h, h2]; simp
theorem a5c {l : List Fd} {p x : AS} {a : Nat} (ha : a < 32) (h : cu x a = false) : s4 l p x (a + 1) = s4 l p x a := by
 rw [fy ha] at h
 rw [ya, h]; simp
theorem a6t {l : List Fd} {p x : AS} {a : Nat} (h : i9 l p (noA x a) = false) : s4 l p x (a + 1) = s4 l p x a := by
 rw [ya, h]; simp
def a1z (i : Nat) : List AS := (List.range i).map (BitVec.ofNat 32)
theorem a7j (i : Nat) : a1z (i + 1) = a1z i ++ [BitVec.ofNat 32 i] := by unfold a1z; rw [List.range_succ, List.map_append]; rfl
def prQ (l : List Fd) (p x : AS) : Bool := decide (sub x p) && og l p x
def gi (l : List Fd) (p : AS) (i : Nat) : AS := orL ((a1z i).filter (prQ l p))
theorem ao1 {l : List Fd} {p : AS} {i : Nat} (h : sub (BitVec.ofNat 32 i) p) (h2 : i9 l p (BitVec.ofNat 32 i) = true) (h3 : py l p (BitVec.ofNat 32 i) = true) : gi l p (i + 1) = gi l p i ||| BitVec.ofNat 32 i := by
 have e : prQ l p (BitVec.ofNat 32 i) = true := by unfold prQ; rw [decide_eq_true h, a3l h2 h3]; rfl
 unfold gi
 rw [a7j, List.filter_append]
 simp only [List.filter_cons, e, if_true, List.filter_nil]
 exact ae0 _ _
theorem a2d {l : List Fd} {p : AS} {i : Nat} (e : prQ l p (BitVec.ofNat 32 i) = false) : gi l p (i + 1) = gi l p i := by
 unfold gi
 rw [a7j, List.filter_append]
 simp only [List.filter_cons, e, Bool.false_eq_true, if_false, List.filter_nil, List.append_nil]
theorem ayw {l : List Fd} {p x : AS} (h : ¬ sub x p) : prQ l p x = false := by unfold prQ; rw [decide_eq_false h]; rfl
theorem azc {l : List Fd} {p x : AS} (h : i9 l p x = false) : prQ l p x = false := by unfold prQ; rw [a0b h]; simp
theorem ayj {l : List Fd} {p x : AS} (h : py l p x = false) : prQ l p x = false := by unfold prQ; rw [a0s h]; simp
theorem aaw {i : Nat} {x : AS} (hi : i ≤ 4294967296) : x ∈ a1z i ↔ x.toNat < i := by
 unfold a1z
 rw [List.mem_map]
 constructor
 · rintro ⟨k, hk, rfl⟩
   rw [List.mem_range] at hk
   rw [BitVec.toNat_ofNat, Nat.mod_eq_of_lt (by omega)]
   exact hk
 · intro h
   exact ⟨x.toNat, List.mem_range.2 h, by rw [BitVec.ofNat_toNat, BitVec.setWidth_eq]⟩
theorem aex {l : List Fd} {p : AS} {i : Nat} (hp : i = p.toNat + 1) : gi l p i = ge l p := by
 have := p.isLt
 unfold gi ge
 refine aan fun z => ?_
 rw [List.mem_filter, List.mem_filter, aaw (by omega), mw]
 unfold prQ
 rw [Bool.and_eq_true, decide_eq_true_iff]
 constructor
 · rintro ⟨_, h1, h2⟩; exact ⟨h1, h2⟩
 · rintro ⟨h1, h2⟩
   have := a3v h1
   exact ⟨by omega, h1, h2⟩
section
variable {l : List Fd} {p : AS} {i : Nat}
theorem rg (hi : i < 4294967296) : ca .andNot .u32 (i : Int) (asI p) = 0 ↔ sub (BitVec.ofNat 32 i) p := by
 rw [eq hi]
 exact fc
theorem afk (hi : i < 4294967296) (h : ¬ ca .andNot .u32 (i : Int) (asI p) = 0) : asI (gi l p i) = asI (gi l p (i + 1)) := congrArg asI (a2d (ayw fun e => h ((rg hi).2 e))).symm
theorem af0 (h : decide (sub p (clo l (BitVec.ofNat 32 i))) = false) : asI (gi l p i) = asI (gi l p (i + 1)) := congrArg asI (a2d (azc h)).symm
theorem af3 (h : s4 l p (BitVec.ofNat 32 i) 32 = false) : asI (gi l p i) = asI (gi l p (i + 1)) := congrArg asI (a2d (ayj h)).symm
theorem ag4 (hi : i < 4294967296) (h1 : ca .andNot .u32 (i : Int) (asI p) = 0) (h2 : decide (sub p (clo l (BitVec.ofNat 32 i))) = true) (h3 : s4 l p (BitVec.ofNat 32 i) 32 = true) : ca .or .u32 (asI (gi l p i)) (i : Int) = asI (gi l p (i + 1)) := by
 rw [ao1 ((rg hi).1 h1) h2 h3, eq hi, bOr]
end
def kb (l : List Fd) (p x : AS) : Bool := !i9 l p x && decide (((clo l x &&& p) &&& ~~~x) &&& ~~~ge l p ≠ 0)
def db (l : List Fd) (p : AS) : Bool := !(dv p).any (kb l p)
theorem ad6 {l : List Fd} {p : AS} (h : ∀ x, sub x p → kb l p x = false) : db l p = true := by
 unfold db
 have : (dv p).any (kb l p) = false := by
  rw [List.any_eq_false]
  intro x hx
  rw [h x (mw.1 hx)]
  decide
 rw [this]; rfl
theorem ady {l : List Fd} {p x : AS} (hx : sub x p) (h : kb l p x = true) : db l p = false := by
 unfold db
 have : (dv p).any (kb l p) = true := by
  rw [List.any_eq_true]
  exact ⟨x, mw.2 hx, h⟩
 rw [this]; rfl
theorem aow {l : List Fd} {p x : AS} : decide (ca .andNot .u32 (ca .andNot .u32 (ca .and .u32 (asI (clo l x)) (asI p)) (asI x)) (asI (ge l p)) = 0) = decide (((clo l x &&& p) &&& ~~~x) &&& ~~~ge l p = 0) := by
 rw [o5, z7, z7, show (0 : Int) = asI 0 from rfl, a3g]
theorem zj {l : List Fd} {p x : AS} (h : i9 l p x = true) : kb l p x = false := by unfold kb; rw [h]; rfl
theorem zf {l : List Fd} {p x : AS} (h : ca .andNot .u32 (ca .andNot .u32 (ca .and .u32 (asI (clo l x)) (asI p)) (asI x)) (asI (ge l p)) = 0) : kb l p x = false := by
 have e := aow.symm.trans (decide_eq_true h)
 unfold kb
 rw [decide_eq_false (fun hn => hn (of_decide_eq_true e))]
 simp
theorem apq {l : List Fd} {p x : AS} (h0 : i9 l p x = false) (h : ¬ ca .andNot .u32 (ca .andNot .u32 (ca .and .u32 (asI (clo l x)) (asI p)) (asI x)) (asI (ge l p)) = 0) : kb l p x = true := by
 have e := aow.symm.trans (decide_eq_false h)
 unfold kb
 rw [h0, decide_eq_true (of_decide_eq_false e)]
 rfl
theorem aor {l : List Fd} {p x : AS} (h : ca .and .u32 (asI (clo l x)) (asI p) = asI p) : i9 l p x = true := lv.symm.trans (decide_eq_true h)
theorem ay6 {l : List Fd} {p x : AS} (h : ¬ ca .and .u32 (asI (clo l x)) (asI p) = asI p) : i9 l p x = false := lv.symm.trans (decide_eq_false h)
theorem a8v {l : List Fd} {p : AS} {i : Nat} (hi : i < 4294967296) (h : ¬ ca .andNot .u32 (i : Int) (asI p) = 0) : (decide (sub (BitVec.ofNat 32 i) p) && kb l p (BitVec.ofNat 32 i)) = false := by
 rw [decide_eq_false (fun e => h ((rg hi).2 e))]; rfl
theorem vb {l : List Fd} {p : AS} {x : AS} {b : Bool} (h : kb l p x = false) : (b && kb l p x) = false := by rw [h]; simp
theorem auj {l : List Fd} {p : AS} {i : Nat} (hi : i = p.toNat + 1) (h : ∀ j, j < i → (decide (sub (BitVec.ofNat 32 j) p) && kb l p (BitVec.ofNat 32 j)) = false) : db l p = true := ad6 fun x hx => by
 have := h x.toNat (by have := a3v hx; omega)
 rw [BitVec.ofNat_toNat, BitVec.setWidth_eq, decide_eq_true hx, Bool.true_and] at this
 exact this
theorem am1 {l : List Fd} {p : AS} (h : ∀ j, j < (dv p).length → kb l p ((dv p).getD j default) = false) : db l p = true := ad6 fun x hx => by
 obtain ⟨j, hj, rfl⟩ := List.getElem_of_mem (mw.2 hx)
 have := h j hj
 rwa [List.getD_eq_getElem?_getD, List.getElem?_eq_getElem hj, Option.getD_some] at this
def pf (n : Int) (l : List Fd) (p : AS) : Int := if az n l = 0 then (if sub p (b8 n) then 0 else 1) else az n l
def xk (n : Int) (l : List Fd) (p : AS) : Bool := decide (pf n l p = 0) && db l p
theorem ay4 {n : Int} {l : List Fd} {p : AS} (h : ¬ az n l = 0) : pf n l p = az n l ∧ xk n l p = false := by
 have e : pf n l p = az n l := if_neg h
 exact ⟨e, by unfold xk; rw [e, decide_eq_false h]; rfl⟩
theorem ay8 {n : Int} {l : List Fd} {p : AS} (h : az n l = 0) (h2 : ¬ sub p (b8 n)) : pf n l p = 1 ∧ xk n l p = false := by
 have e : pf n l p = 1 := by unfold pf; rw [if_pos h, if_neg h2]
 exact ⟨e, by unfold xk; rw [e]; rfl⟩
theorem aoz {n : Int} {l : List Fd} {p : AS} (h : az n l = 0) (h2 : sub p (b8 n)) : pf n l p = 0 ∧ xk n l p = db l p := by
 have e : pf n l p = 0 := by unfold pf; rw [if_pos h, if_pos h2]
 exact ⟨e, by unfold xk; rw [e]; rfl⟩
end Go.Hx
end
