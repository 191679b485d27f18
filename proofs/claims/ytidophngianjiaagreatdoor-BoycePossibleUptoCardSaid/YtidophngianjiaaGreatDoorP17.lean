/- A part of the proof: lemmas for the theorem of this claim, merged by a program of ours out of Hx19, Hx23, Cs1, Cs3, V1, Cs4, V2, Cl1. -/
import Derived.Deep.AppendLies
import Derived.Laws.CopyRow
import Derived.Shelf.Spec.SlicesInsertGrow
import Derived.Test.YtidophngianjiaaGreatDoorP15
import Derived.Test.YtidophngianjiaaGreatDoorP16
set_option linter.all false
section
namespace Go.Hx
open Go.Proofs Go.Lib Go.RowKit
theorem ha_old (w : World) (o : Obj) {r : Nat} (h : r < w.heap.size) : (w.alloc o).heap[r]? = w.heap[r]? := by
 show (w.heap.push o)[r]? = _
 rw [Array.getElem?_push_lt h, Array.getElem?_eq_getElem h]
def insL (k : Nat) (xs vs : List Value) : List Value := xs.take k ++ vs ++ xs.drop k
structure InsEnd (w w' : World) (T s : Nat) (own v : Value) (n : Nat) (xs : List Value) : Prop where
 row : w'.ownsRow 0 T s v (n + 1) xs
 bl : Below 0 w w'
 out : ∀ g, g < w.heap.size → blkOf own ≠ some g → w'.heap[g]? = w.heap[g]?
 at_ : ∀ g, blkOf v = some g → w.heap.size ≤ g ∨ blkOf own = some g
def insF (i : Nat) (F G : Nat → Nat → PV) : Nat → Nat → PV := fun k j => if k < i then F k j else if k = i then G 0 j else F (k - 1) j
theorem lk_one {id q : Nat} {x ob : HObj} (h : lk [(q, x)] id = some ob) : id = q ∧ ob = x := by
 simp only [lk] at h
 by_cases hk : q = id
 · subst hk
   simp at h
   exact ⟨rfl, h.symm⟩
 · have : Nat.beq q id = false := by
    rw [Bool.eq_false_iff]; exact fun hb => hk (Nat.eq_of_beq_eq_true hb)
   rw [this] at h
   cases h
structure InsC (c : Ctx) (w w' : World) (T s a : Nat) (v : Value) (n : Nat) (ys : List Value) : Prop where
 row : w'.ownsRow 0 T s v (n + 1) ys
 bl : Below 0 w w'
 out : ∀ g, g < w.heap.size → ¬ c.blk a g → w'.heap[g]? = w.heap[g]?
 at_ : ∀ g, blkOf v = some g → w.heap.size ≤ g ∨ c.blk a g
theorem hfun_new {P : Program} {f : FuncId} {T s a : Nat} {y : Value} {F : Nat → Nat → PV} (hs : 0 < s)
 (h : ∀ (w : World) (ad : Option Addr), Calls P f #[.slice ad 0 0, y] w fun e w' => ∃ v, e = .returned v ∧ Below w.heap.size w w' ∧ (v = .slice ad 0 0 ∨ w'.ownsRow 0 T s v 0 [] ∧ ∀ g, blkOf v = some g → w.heap.size ≤ g)) :
 HFun P f [.one (.p (rawP (.slice none 0 0))), .one (.p (.raw y))] [] (.v (.one (.ref a 0))) [(a, .arr true s T 0 F)] [] := by
 intro w c us hM hrep
 obtain ⟨ad, rfl⟩ : ∃ ad, us = [.slice ad 0 0, y] := by
  match us, hrep with
  | [u0, u1], ⟨h0, h1, _⟩ =>
   obtain ⟨ad, cap, hv, _, _, hc, _⟩ := h0
   obtain rfl : cap = 0 := hc rfl
   exact ⟨ad, by rw [hv, show u1 = y from h1.1]⟩
 refine (h w ad).mono ?_
 rintro e w' ⟨v, rfl, hb, hor⟩
 have la : lk [(a, HObj.arr true s T 0 F)] a = some (.arr true s T 0 F) := by simp [lk]
 have him : ∀ q ob, c.imm q = some ob → q < w.heap.size := fun q ob hq => (Array.getElem?_eq_some_iff.1 (hM.imm q ob hq)).1
 have hform : v.oneCell' = true := by
  rcases hor with rfl | ⟨hrow, _⟩
  · rfl
  · rcases hrow.2 with ⟨hv, _⟩ | ⟨g, cap, cur, hv, _⟩ <;> (subst hv; rfl)
 have hbk : ∃ bk : Nat → Prop, (∀ g, bk g → w.heap.size ≤ g) ∧ (bk = blkS v ∧ w'.ownsRow 0 T s v 0 [] ∨ bk = noB ∧ RepP c.imm (.sl 0 s true F) v) := by
  rcases hor with rfl | ⟨hrow, hat⟩
  · exact ⟨noB, fun g hg => hg.elim, .inr ⟨rfl, ad, 0, rfl, Nat.le_refl _, Nat.zero_le _, fun _ => rfl, fun h => absurd h (Nat.lt_irrefl 0)⟩⟩
  · exact ⟨blkS v, hat, .inl ⟨rfl, hrow⟩⟩
 obtain ⟨bk, hat, hok⟩ := hbk
 refine ⟨v, { c with own := fun q => if q = a then v else c.own q, blk := fun q => if q = a then bk else c.blk q }, rfl, ⟨hform, fun l hl => (by cases (lk_one hl).2), fun ob s1 e1 n1 ho1 hd => ?_⟩, ⟨fun id ob hl => ?_, fun id id' ob ob' q hl hl' _ _ => by rw [(lk_one hl).1, (lk_one hl').1], fun q ob hq => (hb.block q (him q ob hq)).trans (hM.imm q ob hq), fun id ob q hl hq => ?_⟩, ⟨hb.os, hb.tape, hb.output, hb.size, fun k hk => absurd hk (Nat.not_lt_zero k), hb.drawn⟩, fun q hq _ => ⟨hb.block q hq, rfl⟩, fun id ob q hl hq => ?_, fun id hid => absurd hid (by simp)⟩
 · obtain ⟨_, rfl⟩ := lk_one ho1
   simp only [HObj.dim, Option.some.injEq, Prod.mk.injEq] at hd
   obtain ⟨rfl, rfl, rfl⟩ := hd
   exact ⟨Nat.le_refl _, fun _ => by simp⟩
 · obtain ⟨rfl, rfl⟩ := lk_one hl
   rcases hok with ⟨h1, h2⟩ | ⟨h1, h2⟩
   · exact ⟨hs, Nat.zero_le _, .inl ⟨by simpa using h1, [], by simpa using h2, fun i j hi => by omega⟩⟩
   · exact ⟨hs, Nat.zero_le _, .inr ⟨.inr rfl, by simpa using h1, by simpa using h2⟩⟩
 · obtain ⟨rfl, _⟩ := lk_one hl
   have hq' : bk q := by simpa using hq
   show c.imm q = none
   cases hc : c.imm q with
   | none => rfl
   | some ob => have := him q ob hc; have := hat q hq'; omega
 · obtain ⟨rfl, _⟩ := lk_one hl
   have hq' : bk q := by simpa using hq
   exact .inl (hat q hq')
def HE (nt : Nat) (st : HSt) (Q : HSt → Prop) : Prop := ∀ w0 m0 a w, Rel w0 m0 nt st.den a w → ∃ st' : HSt, Q st' ∧ Rel w0 m0 nt st'.den a w
end Go.Hx
end
section
namespace Go.Hx
open Go.RowKit
abbrev AS := BitVec 32
abbrev asI (s : AS) : Int := (s.toNat : Int)
def asC (s : AS) : PV := .raw (.int .u32 (asI s))
theorem wrap_u32 {n : Int} (h0 : 0 ≤ n) (h1 : n < 4294967296) : IntKind.wrap .u32 n = n := wrap_inR (by simp only [inR, loOf, hiOf]; omega)
theorem asI_lt (s : AS) : asI s < 4294967296 := by
 have := s.isLt
 unfold asI
 omega
theorem asI_nn (s : AS) : 0 ≤ asI s := Int.natCast_nonneg _
theorem ofInt_asI (s : AS) : BitVec.ofInt 32 (asI s) = s := by
 unfold asI
 rw [BitVec.ofInt_natCast, BitVec.ofNat_toNat, BitVec.setWidth_eq]
theorem asI_inj {a b : AS} : asI a = asI b ↔ a = b := by
 unfold asI
 rw [Int.ofNat_inj]
 exact BitVec.toNat_inj
theorem wrap_asI (s : AS) : IntKind.wrap .u32 (s.toNat : Int) = asI s := wrap_u32 (asI_nn s) (asI_lt s)
theorem bAnd (a b : AS) : bitV .and .u32 (asI a) (asI b) = asI (a &&& b) := by
 show IntKind.wrap .u32 ((BitVec.ofInt 32 (asI a) &&& BitVec.ofInt 32 (asI b)).toNat : Int) = _
 rw [ofInt_asI, ofInt_asI, wrap_asI]
theorem bOr (a b : AS) : bitV .or .u32 (asI a) (asI b) = asI (a ||| b) := by
 show IntKind.wrap .u32 ((BitVec.ofInt 32 (asI a) ||| BitVec.ofInt 32 (asI b)).toNat : Int) = _
 rw [ofInt_asI, ofInt_asI, wrap_asI]
theorem bNot (a b : AS) : bitV .andNot .u32 (asI a) (asI b) = asI (a &&& ~~~b) := by
 show IntKind.wrap .u32 ((BitVec.ofInt 32 (asI a) &&& ~~~BitVec.ofInt 32 (asI b)).toNat : Int) = _
 rw [ofInt_asI, ofInt_asI, wrap_asI]
theorem bShr (a : AS) (n : Nat) : (asI a).fdiv (2 ^ (min n 32)) = asI (a >>> n) := by
 have e : (2 : Int) ^ (min n 32) = ((2 ^ (min n 32) : Nat) : Int) := by rw [Int.natCast_pow]; rfl
 rw [e]
 unfold asI
 rw [Int.fdiv_eq_ediv_of_nonneg _ (Int.natCast_nonneg _), ← Int.natCast_ediv, BitVec.toNat_ushiftRight, Nat.shiftRight_eq_div_pow]
 by_cases h : n ≤ 32
 · rw [Nat.min_eq_left h]
 · rw [Nat.min_eq_right (by omega)]
   have h1 := a.isLt
   have h2 : 2 ^ 32 ≤ 2 ^ n := Nat.pow_le_pow_right (by omega) (by omega)
   rw [Nat.div_eq_of_lt (by omega), Nat.div_eq_of_lt (Nat.lt_of_lt_of_le (by omega) h2)]
theorem bShl (a : AS) (n : Nat) : IntKind.wrap .u32 (asI a * 2 ^ (min n 32)) = asI (a <<< n) := by
 have e : asI a * (2 : Int) ^ (min n 32) = ((a.toNat * 2 ^ (min n 32) : Nat) : Int) := by rw [Int.natCast_mul, Int.natCast_pow]; rfl
 rw [e]
 have hw : ∀ m : Nat, IntKind.wrap .u32 (m : Int) = ((m % 4294967296 : Nat) : Int) := by
  intro m
  simp [IntKind.wrap, IntKind.signed, IntKind.bits]
 rw [hw]
 unfold asI
 rw [BitVec.toNat_shiftLeft, Nat.shiftLeft_eq]
 by_cases h : n ≤ 32
 · rw [Nat.min_eq_left h]
 · rw [Nat.min_eq_right (by omega)]
   have h1 : a.toNat * 2 ^ 32 % 2 ^ 32 = 0 := Nat.mul_mod_left _ _
   have h2 : a.toNat * 2 ^ n % 2 ^ 32 = 0 := by
    obtain ⟨k, rfl⟩ : ∃ k, n = k + 32 := ⟨n - 32, by omega⟩
    rw [Nat.pow_add, ← Nat.mul_assoc]
    exact Nat.mul_mod_left _ _
   have h1 : a.toNat * 2 ^ 32 % 4294967296 = 0 := h1
   rw [h1, h2]
end Go.Hx
end
section
namespace Go.Hx
structure Fd where
 lhs : AS
 rhs : AS
instance : Inhabited Fd := ⟨⟨0, 0⟩⟩
theorem Fd.eq_iff {a b : Fd} : a = b ↔ a.lhs = b.lhs ∧ a.rhs = b.rhs := by cases a; cases b; simp
instance : DecidableEq Fd := fun a b => decidable_of_iff _ (Fd.eq_iff (a := a) (b := b)).symm
def Fd.c (x : Fd) : Nat → PV
 | 0 => asC x.lhs
 | 1 => asC x.rhs
 | _ => .any
def sub (a b : AS) : Prop := a &&& ~~~b = 0
instance : DecidablePred fun p : AS × AS => sub p.1 p.2 := fun p => inferInstanceAs (Decidable (_ = _))
instance {a b : AS} : Decidable (sub a b) := inferInstanceAs (Decidable (_ = _))
theorem sub_bit {a b : AS} : sub a b ↔ ∀ i, i < 32 → a.getLsbD i = true → b.getLsbD i = true := by
 unfold sub
 constructor
 · intro h i hi ha
   have := congrArg (fun x : AS => x.getLsbD i) h
   simp only [BitVec.getLsbD_and, BitVec.getLsbD_not, hi, ha, decide_true, Bool.true_and] at this
   simpa using this
 · intro h
   apply BitVec.eq_of_getLsbD_eq
   intro i hi
   have := h i hi
   simp only [BitVec.getLsbD_and, BitVec.getLsbD_not, hi, decide_true, Bool.true_and]
   cases ha : a.getLsbD i <;> cases hb : b.getLsbD i <;> simp_all
theorem sub_refl (a : AS) : sub a a := sub_bit.2 fun _ _ h => h
theorem sub_trans {a b c : AS} (h : sub a b) (k : sub b c) : sub a c := sub_bit.2 fun i hi ha => sub_bit.1 k i hi (sub_bit.1 h i hi ha)
theorem sub_or_l {a b : AS} : sub a (a ||| b) := sub_bit.2 fun i hi ha => by simp [ha]
theorem sub_or_r {a b : AS} : sub b (a ||| b) := sub_bit.2 fun i hi ha => by simp [ha]
theorem or_sub {a b c : AS} (h : sub a c) (k : sub b c) : sub (a ||| b) c := sub_bit.2 fun i hi ha => by
 rw [BitVec.getLsbD_or, Bool.or_eq_true] at ha
 rcases ha with ha | ha
 · exact sub_bit.1 h i hi ha
 · exact sub_bit.1 k i hi ha
theorem sub_antisymm {a b : AS} (h : sub a b) (k : sub b a) : a = b := by
 apply BitVec.eq_of_getLsbD_eq
 intro i hi
 have h1 := sub_bit.1 h i hi
 have h2 := sub_bit.1 k i hi
 cases ha : a.getLsbD i <;> cases hb : b.getLsbD i <;> simp_all
theorem sub_le {a b : AS} (h : sub a b) : a.toNat ≤ b.toNat := by
 have e : a ||| b = b := sub_antisymm (or_sub h (sub_refl b)) sub_or_r
 have : a.toNat ≤ (a ||| b).toNat := by rw [BitVec.toNat_or]; exact Nat.left_le_or
 rwa [e] at this
theorem sub_lt {a b : AS} (h : sub a b) (hne : a ≠ b) : a.toNat < b.toNat := by
 rcases Nat.lt_or_eq_of_le (sub_le h) with h | h
 · exact h
 · exact absurd (BitVec.eq_of_toNat_eq h) hne
theorem sub_and {a b : AS} : sub a b ↔ a &&& b = a := by
 rw [sub_bit]
 constructor
 · intro h
   apply BitVec.eq_of_getLsbD_eq
   intro i hi
   have := h i hi
   rw [BitVec.getLsbD_and]
   cases ha : a.getLsbD i <;> simp_all
 · intro h i hi ha
   have := congrArg (fun x : AS => x.getLsbD i) h
   simp only [BitVec.getLsbD_and, ha, Bool.true_and] at this
   exact this
def clStep1 (s : AS) (f : Fd) : AS := if sub f.lhs s then s ||| f.rhs else s
def clStep (l : List Fd) (s : AS) : AS := l.foldl clStep1 s
theorem clStep1_ge {s : AS} {f : Fd} : sub s (clStep1 s f) := by
 unfold clStep1
 split
 · exact sub_or_l
 · exact sub_refl s
theorem clStep_ge : ∀ {l : List Fd} {s : AS}, sub s (clStep l s)
 | [], s => sub_refl s
 | f :: l, s => sub_trans clStep1_ge (clStep_ge (l := l) (s := clStep1 s f))
def clF (l : List Fd) : Nat → AS → AS
 | 0, s => s
 | n + 1, s => if clStep l s = s then s else clF l n (clStep l s)
def clo (l : List Fd) (s : AS) : AS := clF l 4294967296 s
theorem clF_fuel {l : List Fd} : ∀ {n m : Nat} {s : AS}, 4294967296 - s.toNat ≤ n → 4294967296 - s.toNat ≤ m → clF l n s = clF l m s
 | 0, m, s, hn, hm => by have := s.isLt; omega
 | n + 1, 0, s, hn, hm => by have := s.isLt; omega
 | n + 1, m + 1, s, hn, hm => by
  unfold clF
  split
  · rfl
  · rename_i hne
    have := sub_lt (clStep_ge (l := l) (s := s)) (fun e => hne e.symm)
    exact clF_fuel (by omega) (by omega)
theorem clo_fix {l : List Fd} {s : AS} (h : clStep l s = s) : clo l s = s := by
 show clF l (4294967295 + 1) s = s
 unfold clF
 rw [if_pos h]
theorem clo_step {l : List Fd} {s : AS} : clo l (clStep l s) = clo l s := by
 by_cases h : clStep l s = s
 · rw [h]
 · have e : clo l s = clF l 4294967295 (clStep l s) := by
    show clF l (4294967295 + 1) s = _
    rw [clF, if_neg h]
   rw [e]
   have := sub_lt (clStep_ge (l := l) (s := s)) (fun e => h e.symm)
   exact clF_fuel (by omega) (by omega)
theorem clF_closed {l : List Fd} : ∀ {n : Nat} {s : AS}, 4294967296 - s.toNat ≤ n → clStep l (clF l n s) = clF l n s
 | 0, s, hn => by have := s.isLt; omega
 | n + 1, s, hn => by
  unfold clF
  split
  · assumption
  · rename_i hne
    have := sub_lt (clStep_ge (l := l) (s := s)) (fun e => hne e.symm)
    exact clF_closed (by omega)
theorem clo_closed {l : List Fd} {s : AS} : clStep l (clo l s) = clo l s := clF_closed (by omega)
theorem clF_ge {l : List Fd} : ∀ {n : Nat} {s : AS}, sub s (clF l n s)
 | 0, s => sub_refl s
 | n + 1, s => by
  unfold clF
  split
  · exact sub_refl s
  · exact sub_trans clStep_ge clF_ge
theorem clo_ge {l : List Fd} {s : AS} : sub s (clo l s) := clF_ge
def closedB (l : List Fd) (s : AS) : Prop := ∀ f ∈ l, sub f.lhs s → sub f.rhs s
theorem clStep_closed : ∀ {l : List Fd} {s : AS}, clStep l s = s ↔ closedB l s
 | [], s => ⟨fun _ f hf => (by cases hf), fun _ => rfl⟩
 | f :: l, s => by
  constructor
  · intro h
    have h1 : clStep1 s f = s := sub_antisymm (by have := clStep_ge (l := l) (s := clStep1 s f); rw [show clStep l (clStep1 s f) = s from h] at this; exact this) clStep1_ge
    have h2 : clStep l s = s := by
     have : clStep l (clStep1 s f) = s := h
     rwa [h1] at this
    intro g hg
    rcases List.mem_cons.1 hg with rfl | hg
    · intro hl
      rw [clStep1, if_pos hl] at h1
      rw [← h1]
      exact sub_or_r
    · exact clStep_closed.1 h2 g hg
  · intro h
    have h1 : clStep1 s f = s := by
     unfold clStep1
     split
     · rename_i hl
       exact sub_antisymm (or_sub (sub_refl s) (h f (List.mem_cons_self ..) hl)) sub_or_l
     · rfl
    show clStep l (clStep1 s f) = s
    rw [h1]
    exact clStep_closed.2 fun g hg => h g (List.mem_cons_of_mem _ hg)
theorem clStep_sub : ∀ {l : List Fd} {s t : AS}, closedB l t → sub s t → sub (clStep l s) t
 | [], s, t, _, h => h
 | f :: l, s, t, ht, h => clStep_sub (l := l) (fun g hg => ht g (List.mem_cons_of_mem _ hg)) (by
  unfold clStep1
  split
  · rename_i hl
    exact or_sub h (ht f (List.mem_cons_self ..) (sub_trans hl h))
  · exact h)
theorem clF_sub {l : List Fd} {t : AS} (ht : closedB l t) : ∀ {n : Nat} {s : AS}, sub s t → sub (clF l n s) t
 | 0, s, h => h
 | n + 1, s, h => by
  unfold clF
  split
  · exact h
  · exact clF_sub ht (clStep_sub ht h)
theorem clo_least {l : List Fd} {s t : AS} (ht : closedB l t) (h : sub s t) : sub (clo l s) t := clF_sub ht h
theorem clo_isClosed {l : List Fd} {s : AS} : closedB l (clo l s) := clStep_closed.1 clo_closed
theorem clo_mono {l : List Fd} {s t : AS} (h : sub s t) : sub (clo l s) (clo l t) := clo_least clo_isClosed (sub_trans h clo_ge)
end Go.Hx
end
section
namespace Go.Hx
abbrev pI (a : Int) : PC := .one (.raw (.int .i64 a))
abbrev pB (b : Bool) : PC := .one (.raw (.bool b))
abbrev pP (x : PV) : PC := .one x
abbrev pA (s : AS) : PC := .one (.raw (.int .u32 (asI s)))
abbrev fdl (l : List Fd) : PV := psl 2 Fd.c l
abbrev asl (l : List AS) : PV := psl 1 (fun s _ => asC s) l
abbrev vI (a : Int) : HR := oneP (.raw (.int .i64 a))
abbrev vA (s : AS) : HR := oneP (.raw (.int .u32 (asI s)))
theorem clTake {l : List Fd} {s : AS} {i : Nat} (hi : i < l.length) : clStep (l.take (i + 1)) s = clStep1 (clStep (l.take i) s) (l.getD i default) := by
 unfold clStep
 rw [List.take_succ, List.getElem?_eq_getElem hi, List.foldl_append, List.getD_eq_getElem?_getD, List.getElem?_eq_getElem hi]
 rfl
theorem sub_iff_not {a b : AS} : bitV .andNot .u32 (asI a) (asI b) = 0 ↔ sub a b := by
 rw [bNot, show (0 : Int) = asI 0 from rfl, asI_inj]
 exact Iff.rfl
theorem cl_t {S : AS} {f : Fd} (h : bitV .andNot .u32 (asI f.lhs) (asI S) = 0) : bitV .or .u32 (asI S) (asI f.rhs) = asI (clStep1 S f) := by
 rw [bOr, clStep1, if_pos (sub_iff_not.1 h)]
theorem cl_f {S : AS} {f : Fd} (h : ¬ bitV .andNot .u32 (asI f.lhs) (asI S) = 0) : clStep1 S f = S := if_neg fun e => h (sub_iff_not.2 e)
theorem cl_t' {S : AS} {f : Fd} (h : decide (sub f.lhs S) = true) : bitV .or .u32 (asI S) (asI f.rhs) = asI (clStep1 S f) := by
 rw [bOr, clStep1, if_pos (of_decide_eq_true h)]
theorem cl_f' {S : AS} {f : Fd} (h : decide (sub f.lhs S) = false) : clStep1 S f = S := if_neg (of_decide_eq_false h)
def inU (n : Int) (f : Fd) : Bool := decide ((f.lhs ||| f.rhs) >>> n.toNat = 0)
def vErr (n : Int) (l : List Fd) : Int := if n < 0 ∨ 16 < n then 7 else if 64 < l.length then 3 else if l.all (inU n) = true then 0 else 1
theorem shr_iff {n : Int} {f : Fd} : (bitV .or .u32 (asI f.lhs) (asI f.rhs)).fdiv (2 ^ (min n.toNat 32)) = 0 ↔ inU n f = true := by
 rw [bOr, bShr, show (0 : Int) = asI 0 from rfl, asI_inj]
 unfold inU
 rw [decide_eq_true_iff]
theorem cor_i {k : IntKind} {a b : Int} (h : a = b) : CoR (oneP (.raw (.int k a))) (oneP (.raw (.int k b))) := by
 rw [h]
 exact CoR.refl _
def fullS (n : Nat) : AS := (List.range n).foldl (fun s i => s ||| ((1 : AS) <<< i)) 0
def fullI (n : Int) : AS := fullS (min n.toNat 32)
theorem fullS_succ (i : Nat) : fullS (i + 1) = fullS i ||| ((1 : AS) <<< i) := by
 unfold fullS
 rw [List.range_succ, List.foldl_append]
 rfl
theorem full_step (i : Nat) : bitV .or .u32 (asI (fullS i)) (IntKind.wrap .u32 (1 * 2 ^ (min i 32))) = asI (fullS (i + 1)) := by
 have e : IntKind.wrap .u32 (1 * 2 ^ (min i 32)) = asI ((1 : AS) <<< i) := bShl 1 i
 rw [e, bOr, fullS_succ]
end Go.Hx
end
section
namespace Go.Hx
open Go.Proofs
set_option maxRecDepth 100000
set_option maxHeartbeats 1000000
theorem good81 : goodFn Tryz.prog 81 := ⟨Tryz.f81, Tryz.func81, by kernel_rfl, by kernel_rfl⟩
theorem cRSub (a b : AS) : HPure Tryz.prog 81 [pA a, pA b] (prOf [pB (decide (sub a b))]) := by
 refine hpure_of (nt := 10) Tryzok Tryz.func81 rfl rfl l9 ?_; refine hw_seq ?_; refine gy ?_; refine qy ?_; refine rg_nil ?_; refine hw_seq ?_; refine gy ?_; (iterate 6 refine qy ?_); refine rg_nil ?_; refine hw_ret ?_
 refine ⟨.inr rfl, ?_⟩
 exact f9 rfl rfl (⟨ccb (decide_eq_decide.2 (by rw [bAnd, asI_inj]; exact sub_and.symm)), trivial⟩)
theorem good119 : goodFn Tryz.prog 119 := ⟨Tryz.f119, Tryz.func119, by kernel_rfl, by kernel_rfl⟩
theorem cClose (l : List Fd) (s0 : AS) : HPure Tryz.prog 119 [pP (fdl l), pA s0] (prOf [pA (clo l s0)]) := by
 refine hpure_of (nt := 29) Tryzok Tryz.func119 rfl rfl l9 ?_; refine hw_seq ?_
 refine hw_bt 0 rfl fun hlen => ?_
 refine gy ?_; refine qy ?_; refine rg_nil ?_; refine hw_block ?_
 refine hw_loopK (ι := AS) ⟨[(0, some _)], []⟩ ⟨⟨c9, trivial⟩, trivial⟩ (fun s => ⟨[(1, some (vA s))], []⟩) (fun s => clo l s = clo l s0) (fun s => 4294967296 - s.toNat) (s0) (rfl) ⟨⟨zy, trivial⟩, trivial⟩ ?_
 rintro s hs
 refine hw_block ?_; refine hw_seq ?_; refine gy ?_; (iterate 2 refine qy ?_); refine rg_nil ?_; (iterate 2 refine hw_seq ?_); refine gy ?_; (iterate 3 refine qy ?_); refine rg_nil ?_; refine hw_block ?_
 refine hw_loopK (ι := Nat) ⟨[(0, some _), (5, some _), (9, some _), (10, some _)], []⟩ ⟨⟨c9, c9, c9, c9, trivial⟩, trivial⟩ (fun i => ⟨[(11, some (vI i)), (1, some (vA (clStep (l.take i) s)))], []⟩) (fun i => i ≤ l.length) (fun i => l.length - i) (0) (Nat.zero_le _) ⟨⟨zy, zy, trivial⟩, trivial⟩ ?_
 rintro i hi
 refine hw_seq ?_; refine gy ?_; refine qy ?_; refine rg_nil ?_; refine hw_seq ?_; refine hw_cond _ rfl (fun r0 => ?_) (fun r0 => ?_)
 ·
  have h0 := of_decide_eq_true r0
  try simp only [ty] at h0
  refine hw_skip ?_; refine hw_seq ?_; refine hw_block ?_; refine hw_seq ?_; refine gy ?_; (iterate 2 refine qy ?_); refine m9 0 ?_; refine s9 ?_; refine rg_nil ?_; refine hw_seq ?_; refine gy ?_; (iterate 5 refine qy ?_)
  refine rg_nil ?_; refine hw_cond _ rfl (fun r1 => ?_) (fun r1 => ?_)
  ·
   have h1 := of_decide_eq_true r1
   try simp only [ty] at h1
   refine gy ?_; (iterate 5 refine qy ?_); refine rg_nil ?_; refine gy ?_; (iterate 2 refine qy ?_); refine rg_nil ?_; refine ⟨i + 1, ?_, ?_, ?_⟩
   · show i + 1 ≤ _; omega
   · first | omega | (dsimp only; omega)
   · exact ⟨⟨zy, ⟨_, rfl, (by rw [clTake (by omega)]; first | (rw [cl_f (by assumption)]; exact CoR.refl _) | (simp only [Int.toNat_natCast]; rw [cl_t (by assumption)]; exact CoR.refl _))⟩, c9, c9, c9, c9, trivial⟩, trivial⟩
  ·
   have h1 := of_decide_eq_false r1
   try simp only [ty] at h1
   refine hw_skip ?_; refine gy ?_; (iterate 2 refine qy ?_); refine rg_nil ?_; refine ⟨i + 1, ?_, ?_, ?_⟩
   · show i + 1 ≤ _; omega
   · first | omega | (dsimp only; omega)
   · exact ⟨⟨zy, ⟨_, rfl, (by rw [clTake (by omega)]; first | (rw [cl_f (by assumption)]; exact CoR.refl _) | (simp only [Int.toNat_natCast]; rw [cl_t (by assumption)]; exact CoR.refl _))⟩, c9, c9, c9, c9, trivial⟩, trivial⟩
 ·
  have h0 := of_decide_eq_false r0
  try simp only [ty] at h0
  obtain rfl : i = l.length := by omega
  refine hw_exit ?_; refine hw_seq ?_; refine gy ?_; (iterate 3 refine qy ?_); refine rg_nil ?_; refine hw_cond _ rfl (fun r2 => ?_) (fun r2 => ?_)
  ·
   have h2 := of_decide_eq_true r2
   try simp only [ty] at h2
   refine hw_seq ?_; refine gy ?_; (iterate 2 refine qy ?_); refine rg_nil ?_; refine hw_ret ?_; refine ⟨.inr rfl, ?_⟩
   have e2 : clStep l s = s := by
    have := asI_inj.1 (by assumption)
    rwa [List.take_length] at this
   exact f9 rfl rfl (⟨cci (by rw [List.take_length, e2, ← hs, clo_fix e2]), trivial⟩)
  ·
   have h2 := of_decide_eq_false r2
   try simp only [ty] at h2
   refine hw_skip ?_; refine ⟨clStep l s, ?_, ?_, ?_⟩
   · show clo l (clStep l s) = clo l s0
     rw [clo_step]; exact hs
   · have hne : ¬ clStep l s = s := fun e => absurd (congrArg asI e) (by rw [List.take_length] at *; assumption)
     have := sub_lt (clStep_ge (l := l) (s := s)) (fun e => hne e.symm)
     have := (clStep l s).isLt
     show 4294967296 - (clStep l s).toNat < 4294967296 - s.toNat
     omega
   · exact ⟨⟨⟨_, rfl, (by rw [List.take_length]; exact CoR.refl _)⟩, c9, trivial⟩, trivial⟩
theorem good128 : goodFn Tryz.prog 128 := ⟨Tryz.f128, Tryz.func128, by kernel_rfl, by kernel_rfl⟩
theorem cRClose (l : List Fd) (s0 : AS) : HPure Tryz.prog 128 [pP (fdl l), pA s0] (prOf [pA (clo l s0)]) := by
 refine hpure_of (nt := 32) Tryzok Tryz.func128 rfl rfl l9 ?_; refine hw_seq ?_
 refine hw_bt 0 rfl fun hlen => ?_
 refine gy ?_; refine qy ?_; refine rg_nil ?_; refine hw_block ?_
 refine hw_loopK (ι := AS) ⟨[(0, some _)], []⟩ ⟨⟨c9, trivial⟩, trivial⟩ (fun s => ⟨[(1, some (vA s))], []⟩) (fun s => clo l s = clo l s0) (fun s => 4294967296 - s.toNat) (s0) (rfl) ⟨⟨zy, trivial⟩, trivial⟩ ?_
 rintro s hs
 refine hw_block ?_; refine hw_seq ?_; refine gy ?_; (iterate 2 refine qy ?_); refine rg_nil ?_; (iterate 2 refine hw_seq ?_); refine gy ?_; refine qy ?_; refine rg_nil ?_; refine hw_block ?_
 refine hw_loopK (ι := Nat) ⟨[(0, some _), (5, some _)], []⟩ ⟨⟨c9, c9, trivial⟩, trivial⟩ (fun i => ⟨[(6, some (vI i)), (1, some (vA (clStep (l.take i) s)))], []⟩) (fun i => i ≤ l.length) (fun i => l.length - i) (0) (Nat.zero_le _) ⟨⟨zy, zy, trivial⟩, trivial⟩ ?_
 rintro i hi
 (iterate 2 refine hw_seq ?_); refine gy ?_; (iterate 4 refine qy ?_); refine rg_nil ?_; refine hw_cond _ rfl (fun r0 => ?_) (fun r0 => ?_)
 ·
  have h0 := of_decide_eq_true r0
  try simp only [ty] at h0
  refine hw_skip ?_; refine hw_seq ?_; refine hw_block ?_; refine hw_seq ?_; refine gy ?_; (iterate 6 refine qy ?_)
  refine rc rfl rfl rfl rfl rfl rfl good81 (cRSub (l.getD i default).lhs (clStep (l.take i) s)) (CoL.refl _) rfl rfl ?_; refine rg_nil ?_; refine hw_cond _ rfl (fun r1 => ?_) (fun r1 => ?_)
  ·
   have h1 := r1
   refine gy ?_; (iterate 8 refine qy ?_); refine rg_nil ?_; refine gy ?_; (iterate 3 refine qy ?_); refine rg_nil ?_; refine ⟨i + 1, ?_, ?_, ?_⟩
   · show i + 1 ≤ _; omega
   · first | omega | (dsimp only; omega)
   · exact ⟨⟨zy, ⟨_, rfl, (by rw [clTake (by omega)]; first | (rw [cl_f' (by assumption)]; exact CoR.refl _) | (simp only [Int.toNat_natCast]; rw [cl_t' (by assumption)]; exact CoR.refl _))⟩, c9, c9, trivial⟩, trivial⟩
  ·
   have h1 := r1
   refine hw_skip ?_; refine gy ?_; (iterate 3 refine qy ?_); refine rg_nil ?_; refine ⟨i + 1, ?_, ?_, ?_⟩
   · show i + 1 ≤ _; omega
   · first | omega | (dsimp only; omega)
   · exact ⟨⟨zy, ⟨_, rfl, (by rw [clTake (by omega)]; first | (rw [cl_f' (by assumption)]; exact CoR.refl _) | (simp only [Int.toNat_natCast]; rw [cl_t' (by assumption)]; exact CoR.refl _))⟩, c9, c9, trivial⟩, trivial⟩
 ·
  have h0 := of_decide_eq_false r0
  try simp only [ty] at h0
  obtain rfl : i = l.length := by omega
  refine hw_exit ?_; refine hw_seq ?_; refine gy ?_; (iterate 3 refine qy ?_); refine rg_nil ?_; refine hw_cond _ rfl (fun r2 => ?_) (fun r2 => ?_)
  ·
   have h2 := of_decide_eq_true r2
   try simp only [ty] at h2
   refine hw_seq ?_; refine gy ?_; (iterate 2 refine qy ?_); refine rg_nil ?_; refine hw_ret ?_; refine ⟨.inr rfl, ?_⟩
   have e2 : clStep l s = s := by
    have := asI_inj.1 (by assumption)
    rwa [List.take_length] at this
   exact f9 rfl rfl (⟨cci (by rw [List.take_length, e2, ← hs, clo_fix e2]), trivial⟩)
  ·
   have h2 := of_decide_eq_false r2
   try simp only [ty] at h2
   refine hw_skip ?_; refine ⟨clStep l s, ?_, ?_, ?_⟩
   · show clo l (clStep l s) = clo l s0
     rw [clo_step]; exact hs
   · have hne : ¬ clStep l s = s := fun e => absurd (congrArg asI e) (by rw [List.take_length] at *; assumption)
     have := sub_lt (clStep_ge (l := l) (s := s)) (fun e => hne e.symm)
     have := (clStep l s).isLt
     show 4294967296 - (clStep l s).toNat < 4294967296 - s.toNat
     omega
   · exact ⟨⟨⟨_, rfl, (by rw [List.take_length]; exact CoR.refl _)⟩, c9, trivial⟩, trivial⟩
theorem good82 : goodFn Tryz.prog 82 := ⟨Tryz.f82, Tryz.func82, by kernel_rfl, by kernel_rfl⟩
theorem cValid (n : Int) (l : List Fd) : HPure Tryz.prog 82 [pI n, pP (fdl l)] (prOf [pI (vErr n l)]) := by
 refine hpure_of (nt := 31) Tryzok Tryz.func82 rfl rfl l9 ?_; refine hw_seq ?_
 refine hw_bt 1 rfl fun hlen => ?_
 refine gy ?_; refine qy ?_; refine rg_nil ?_; (iterate 2 refine hw_seq ?_); refine gy ?_; (iterate 3 refine qy ?_); refine rsplit rfl rfl (fun r0 => ?_) (fun r0 => ?_)
 ·
  have h0 := of_decide_eq_true r0
  try simp only [ty] at h0
  (iterate 2 refine k9 (gtf r0) ?_); refine rq rfl rfl rfl rfl rfl ?_ (hp := r0); refine rg_nil ?_; refine hw_cond _ rfl (fun _ => ?_) (fun e => by cases e); refine hw_seq ?_; refine gy ?_; refine qy ?_; refine rg_nil ?_
  refine hw_ret ?_; refine ⟨.inr rfl, ?_⟩
  exact f9 rfl rfl (⟨cci (by rw [vErr, if_pos (by omega)]), trivial⟩)
 ·
  have h0 := of_decide_eq_false r0
  try simp only [ty] at h0
  (iterate 2 refine qy ?_ (hg := (gff r0))); refine qy ?_; refine rg_nil ?_; refine hw_cond _ rfl (fun r1 => ?_) (fun r1 => ?_)
  ·
   have h1 := r1
   have h1 := bif_f r0 h1
   have h1 := of_decide_eq_true h1
   try simp only [ty] at h1
   refine hw_seq ?_; refine gy ?_; refine qy ?_; refine rg_nil ?_; refine hw_ret ?_; refine ⟨.inr rfl, ?_⟩
   exact f9 rfl rfl (⟨cci (by rw [vErr, if_pos (by omega)]), trivial⟩)
  ·
   have h1 := r1
   have h1 := bif_f r0 h1
   have h1 := of_decide_eq_false h1
   try simp only [ty] at h1
   refine hw_skip ?_; (iterate 2 refine hw_seq ?_); refine gy ?_; (iterate 3 refine qy ?_); refine rg_nil ?_; refine hw_cond _ rfl (fun r2 => ?_) (fun r2 => ?_)
   ·
    have h2 := of_decide_eq_true r2
    try simp only [ty] at h2
    refine hw_seq ?_; refine gy ?_; refine qy ?_; refine rg_nil ?_; refine hw_ret ?_; refine ⟨.inr rfl, ?_⟩
    exact f9 rfl rfl (⟨cci (by rw [vErr, if_neg (by omega), if_pos (by omega)]), trivial⟩)
   ·
    have h2 := of_decide_eq_false r2
    try simp only [ty] at h2
    refine hw_skip ?_; (iterate 2 refine hw_seq ?_); refine gy ?_; (iterate 3 refine qy ?_); refine rg_nil ?_; refine hw_block ?_
    refine hw_loopK (ι := Nat) ⟨[(0, some _), (16, some _), (17, some _)], []⟩ ⟨⟨c9, c9, c9, trivial⟩, trivial⟩ (fun i => ⟨[(18, some (vI i))], []⟩) (fun i => i ≤ l.length ∧ ∀ j, j < i → inU n (l.getD j default) = true) (fun i => l.length - i) (0) (⟨Nat.zero_le _, fun j hj => absurd hj (Nat.not_lt_zero j)⟩) ⟨⟨zy, trivial⟩, trivial⟩ ?_
    rintro i ⟨hi, hI⟩
    refine hw_seq ?_; refine gy ?_; refine qy ?_; refine rg_nil ?_; refine hw_seq ?_; refine hw_cond _ rfl (fun r3 => ?_) (fun r3 => ?_)
    ·
     have h3 := of_decide_eq_true r3
     try simp only [ty] at h3
     refine hw_skip ?_; refine hw_seq ?_; refine hw_block ?_; refine hw_seq ?_; refine gy ?_; (iterate 2 refine qy ?_); refine m9 0 ?_; refine s9 ?_; refine rg_nil ?_; refine hw_seq ?_; refine gy ?_; (iterate 8 refine qy ?_)
     refine rg_nil ?_; refine hw_cond _ rfl (fun r4 => ?_) (fun r4 => ?_)
     ·
      have h4 := r4
      have h4 := of_decide_eq_false (not_t h4)
      try simp only [ty] at h4
      refine hw_seq ?_; refine gy ?_; refine qy ?_; refine rg_nil ?_; refine hw_ret ?_; refine ⟨.inr rfl, ?_⟩
      exact f9 rfl rfl (⟨cci (by rw [vErr, if_neg (by omega), if_neg (by omega), if_neg (fun e => absurd (all_f (l := l) (p := inU n) (i := i) (by omega) (by rw [Bool.eq_false_iff]; exact fun e => absurd (shr_iff.2 e) (by assumption))) (by rw [e]; decide))]), trivial⟩)
     ·
      have h4 := r4
      have h4 := of_decide_eq_true (not_f h4)
      try simp only [ty] at h4
      refine hw_skip ?_; refine gy ?_; (iterate 2 refine qy ?_); refine rg_nil ?_; refine ⟨i + 1, ?_, ?_, ?_⟩
      · refine ⟨by omega, fun j hj => ?_⟩
        rcases Nat.lt_or_eq_of_le (Nat.le_of_lt_succ hj) with h | h
        · exact hI j h
        · subst h
          exact shr_iff.1 (by assumption)
      · first | omega | (dsimp only; omega)
      · exact ⟨⟨zy, c9, c9, c9, trivial⟩, trivial⟩
    ·
     have h3 := of_decide_eq_false r3
     try simp only [ty] at h3
     obtain rfl : i = l.length := by omega
     refine hw_exit ?_; refine hw_seq ?_; refine gy ?_; refine qy ?_; refine rg_nil ?_; refine hw_ret ?_; refine ⟨.inr rfl, ?_⟩
     exact f9 rfl rfl (⟨cci (by rw [vErr, if_neg (by omega), if_neg (by omega), if_pos (all_t fun j hj => hI j hj)]), trivial⟩)
theorem good20 : goodFn Tryz.prog 20 := ⟨Tryz.f20, Tryz.func20, by kernel_rfl, by kernel_rfl⟩
theorem cRFull (n : Int) : HPure Tryz.prog 20 [pI n] (prOf [pA (fullI n)]) := by
 refine hpure_of (nt := 19) Tryzok Tryz.func20 rfl rfl l9 ?_; refine hw_seq ?_; refine gy ?_; refine qy ?_; refine rg_nil ?_; refine hw_seq ?_; refine gy ?_; refine qy ?_; refine rg_nil ?_; (iterate 2 refine hw_seq ?_)
 refine gy ?_; refine qy ?_; refine rg_nil ?_; refine hw_block ?_
 refine hw_loopK (ι := Nat) ⟨[(0, some _)], []⟩ ⟨⟨c9, trivial⟩, trivial⟩ (fun i => ⟨[(4, some (vI i)), (3, some (vA (fullS i)))], []⟩) (fun i => i ≤ min n.toNat 32) (fun i => min n.toNat 32 - i) (0) (Nat.zero_le _) ⟨⟨zy, zy, trivial⟩, trivial⟩ ?_
 rintro i hi
 (iterate 2 refine hw_seq ?_); refine gy ?_; (iterate 4 refine qy ?_); refine rsplit rfl rfl (fun r0 => ?_) (fun r0 => ?_)
 ·
  have h0 := of_decide_eq_true r0
  try simp only [ty] at h0
  (iterate 2 refine qy ?_ (hg := (gtt r0))); refine qy ?_; refine rg_nil ?_; refine hw_cond _ rfl (fun r1 => ?_) (fun r1 => ?_)
  ·
   have h1 := r1
   have h1 := bif_t r0 h1
   have h1 := of_decide_eq_true h1
   try simp only [ty] at h1
   refine hw_skip ?_; refine hw_seq ?_; refine hw_block ?_; refine gy ?_; (iterate 5 refine qy ?_); refine rg_nil ?_; refine gy ?_; (iterate 3 refine qy ?_); refine rg_nil ?_; refine ⟨i + 1, ?_, ?_, ?_⟩
   · show i + 1 ≤ _; omega
   · first | omega | (dsimp only; omega)
   · exact ⟨⟨zy, ⟨_, rfl, (by simp only [Int.toNat_natCast]; exact cor_i (full_step i))⟩, c9, trivial⟩, trivial⟩
  ·
   have h1 := r1
   have h1 := bif_t r0 h1
   have h1 := of_decide_eq_false h1
   try simp only [ty] at h1
   obtain rfl : i = min n.toNat 32 := by omega
   refine hw_exit ?_; refine hw_seq ?_; refine gy ?_; (iterate 2 refine qy ?_); refine rg_nil ?_; refine hw_ret ?_; refine ⟨.inr rfl, ?_⟩
   exact f9 rfl rfl (CoL.refl _)
 ·
  have h0 := of_decide_eq_false r0
  try simp only [ty] at h0
  obtain rfl : i = min n.toNat 32 := by omega
  (iterate 2 refine k9 (gft r0) ?_); refine rq rfl rfl rfl rfl rfl ?_ (hp := r0); refine rg_nil ?_; refine hw_cond _ rfl (fun e => by cases e) (fun _ => ?_); refine hw_exit ?_; refine hw_seq ?_; refine gy ?_
  (iterate 2 refine qy ?_); refine rg_nil ?_; refine hw_ret ?_; refine ⟨.inr rfl, ?_⟩
  exact f9 rfl rfl (CoL.refl _)
end Go.Hx
end
section
namespace Go.Hx
theorem bit_one (i k : Nat) (hk : k < 32) : ((1 : AS) <<< i).getLsbD k = decide (k = i) := by
 rw [BitVec.getLsbD_shiftLeft]
 by_cases h : k < i
 · simp [h, hk]; omega
 · by_cases e : k = i
   · subst e; simp [hk]
   · have : 0 < k - i := by omega
     simp [hk, h, e, BitVec.getLsbD_one]
     omega
theorem fullS_bit : ∀ (n k : Nat), k < 32 → (fullS n).getLsbD k = decide (k < n)
 | 0, k, hk => by simp [fullS]
 | n + 1, k, hk => by
  rw [fullS_succ, BitVec.getLsbD_or, fullS_bit n k hk, bit_one n k hk]
  by_cases h : k < n
  · simp [h]; omega
  · by_cases e : k = n
    · simp [e]
    · simp [h, e]; omega
theorem shr0 {s : AS} {n : Nat} : s >>> n = 0 ↔ ∀ k, k < 32 → n ≤ k → s.getLsbD k = false := by
 constructor
 · intro h k hk hn
   have := congrArg (fun x : AS => x.getLsbD (k - n)) h
   simp only [BitVec.getLsbD_ushiftRight] at this
   rw [show n + (k - n) = k by omega] at this
   simpa using this
 · intro h
   apply BitVec.eq_of_getLsbD_eq
   intro i hi
   rw [BitVec.getLsbD_ushiftRight]
   by_cases hk : n + i < 32
   · rw [h (n + i) hk (by omega)]; simp
   · rw [BitVec.getLsbD_of_ge _ _ (by omega)]; simp
theorem within_iff {s : AS} {n : Nat} (hn : n ≤ 32) : sub s (fullS n) ↔ s >>> n = 0 := by
 rw [sub_bit, shr0]
 constructor
 · intro h k hk hle
   rw [Bool.eq_false_iff]
   intro e
   have := h k hk e
   rw [fullS_bit n k hk, decide_eq_true_iff] at this
   omega
 · intro h k hk e
   rw [fullS_bit n k hk, decide_eq_true_iff]
   apply Nat.lt_of_not_le
   intro hle
   rw [h k hk hle] at e
   cases e
theorem inU_iff {n : Int} (hn : 0 ≤ n) (h16 : n ≤ 16) {f : Fd} : inU n f = true ↔ sub f.lhs (fullI n) ∧ sub f.rhs (fullI n) := by
 unfold inU fullI
 rw [decide_eq_true_iff, Nat.min_eq_left (by omega), ← within_iff (by omega)]
 exact ⟨fun h => ⟨sub_trans sub_or_l h, sub_trans sub_or_r h⟩, fun h => or_sub h.1 h.2⟩
abbrev Fd.pc (f : Fd) : PC := .agg [f.c 0, f.c 1]
def imp (l : List Fd) (f : Fd) : Bool := decide (sub f.rhs (clo l f.lhs))
end Go.Hx
end
section
namespace Go.Hx
open Go.Proofs
set_option maxRecDepth 100000
theorem good40 : goodFn Tryz.prog 40 := ⟨Tryz.f40, Tryz.func40, by kernel_rfl, by kernel_rfl⟩
theorem cRValid (n : Int) (l : List Fd) : HPure Tryz.prog 40 [pI n, pP (fdl l)] (prOf [pI (vErr n l)]) := by
 refine hpure_of (nt := 42) Tryzok Tryz.func40 rfl rfl l9 ?_; refine hw_seq ?_
 refine hw_bt 1 rfl fun hlen => ?_
 refine gy ?_; refine qy ?_; refine rg_nil ?_; (iterate 2 refine hw_seq ?_); refine gy ?_; (iterate 3 refine qy ?_); refine rsplit rfl rfl (fun r0 => ?_) (fun r0 => ?_)
 ·
  have h0 := of_decide_eq_true r0
  try simp only [ty] at h0
  (iterate 2 refine k9 (gtf r0) ?_); refine rq rfl rfl rfl rfl rfl ?_ (hp := r0); refine rg_nil ?_; refine hw_cond _ rfl (fun _ => ?_) (fun e => by cases e); refine hw_seq ?_; refine gy ?_; refine qy ?_; refine rg_nil ?_
  refine hw_ret ?_; refine ⟨.inr rfl, ?_⟩
  exact f9 rfl rfl (⟨cci (by rw [vErr, if_pos (by omega)]), trivial⟩)
 ·
  have h0 := of_decide_eq_false r0
  try simp only [ty] at h0
  (iterate 2 refine qy ?_ (hg := (gff r0))); refine qy ?_; refine rg_nil ?_; refine hw_cond _ rfl (fun r1 => ?_) (fun r1 => ?_)
  ·
   have h1 := r1
   have h1 := bif_f r0 h1
   have h1 := of_decide_eq_true h1
   try simp only [ty] at h1
   refine hw_seq ?_; refine gy ?_; refine qy ?_; refine rg_nil ?_; refine hw_ret ?_; refine ⟨.inr rfl, ?_⟩
   exact f9 rfl rfl (⟨cci (by rw [vErr, if_pos (by omega)]), trivial⟩)
  ·
   have h1 := r1
   have h1 := bif_f r0 h1
   have h1 := of_decide_eq_false h1
   try simp only [ty] at h1
   refine hw_skip ?_; (iterate 2 refine hw_seq ?_); refine gy ?_; (iterate 3 refine qy ?_); refine rg_nil ?_; refine hw_cond _ rfl (fun r2 => ?_) (fun r2 => ?_)
   ·
    have h2 := of_decide_eq_true r2
    try simp only [ty] at h2
    refine hw_seq ?_; refine gy ?_; refine qy ?_; refine rg_nil ?_; refine hw_ret ?_; refine ⟨.inr rfl, ?_⟩
    exact f9 rfl rfl (⟨cci (by rw [vErr, if_neg (by omega), if_pos (by omega)]), trivial⟩)
   ·
    have h2 := of_decide_eq_false r2
    try simp only [ty] at h2
    refine hw_skip ?_; refine hw_seq ?_; refine gy ?_; refine qy ?_; refine rc rfl rfl rfl rfl rfl rfl good20 (cRFull n) (CoL.refl _) rfl rfl ?_; refine qy ?_; refine rg_nil ?_; (iterate 2 refine hw_seq ?_); refine gy ?_
    refine qy ?_; refine rg_nil ?_; refine hw_block ?_
    refine hw_loopK (ι := Nat) ⟨[(1, some _), (5, some _)], []⟩ ⟨⟨c9, c9, trivial⟩, trivial⟩ (fun i => ⟨[(6, some (vI i))], []⟩) (fun i => i ≤ l.length ∧ ∀ j, j < i → inU n (l.getD j default) = true) (fun i => l.length - i) (0) (⟨Nat.zero_le _, fun j hj => absurd hj (Nat.not_lt_zero j)⟩) ⟨⟨zy, trivial⟩, trivial⟩ ?_
    rintro i ⟨hi, hI⟩
    (iterate 2 refine hw_seq ?_); refine gy ?_; (iterate 4 refine qy ?_); refine rg_nil ?_; refine hw_cond _ rfl (fun r3 => ?_) (fun r3 => ?_)
    ·
     have h3 := of_decide_eq_true r3
     try simp only [ty] at h3
     refine hw_skip ?_; refine hw_seq ?_; refine hw_block ?_; refine hw_seq ?_; refine gy ?_; (iterate 6 refine qy ?_); refine rc rfl rfl rfl rfl rfl rfl good81 (cRSub _ _) (CoL.refl _) rfl rfl ?_; (iterate 2 refine qy ?_)
     refine rsplit rfl rfl (fun r4 => ?_) (fun r4 => ?_)
     ·
      have h4 := r4
      have h4 := not_t h4
      (iterate 8 refine k9 (gtf r4) ?_); refine rq rfl rfl rfl rfl rfl ?_ (hp := r4); refine rg_nil ?_; refine hw_cond _ rfl (fun _ => ?_) (fun e => by cases e); refine hw_seq ?_; refine gy ?_; refine qy ?_; refine rg_nil ?_
      refine hw_ret ?_; refine ⟨.inr rfl, ?_⟩
      exact f9 rfl rfl (⟨cci (by rw [vErr, if_neg (by omega), if_neg (by omega), if_neg (fun e => absurd (all_f (l := l) (p := inU n) (i := i) (by omega) (by rw [Bool.eq_false_iff]; intro e2; rw [inU_iff (by omega) (by omega)] at e2; simp_all)) (by rw [e]; decide))]), trivial⟩)
     ·
      have h4 := r4
      have h4 := not_f h4
      (iterate 6 refine qy ?_ (hg := (gff r4))); refine rc rfl rfl rfl rfl rfl rfl good81 (cRSub _ _) (CoL.refl _) rfl (gff r4) ?_; refine qy ?_ (hg := (gff r4)); refine qy ?_; refine rg_nil ?_
      refine hw_cond _ rfl (fun r5 => ?_) (fun r5 => ?_)
      ·
       have h5 := r5
       have h5 := bif_f r4 h5
       have h5 := not_t h5
       refine hw_seq ?_; refine gy ?_; refine qy ?_; refine rg_nil ?_; refine hw_ret ?_; refine ⟨.inr rfl, ?_⟩
       exact f9 rfl rfl (⟨cci (by rw [vErr, if_neg (by omega), if_neg (by omega), if_neg (fun e => absurd (all_f (l := l) (p := inU n) (i := i) (by omega) (by rw [Bool.eq_false_iff]; intro e2; rw [inU_iff (by omega) (by omega)] at e2; simp_all)) (by rw [e]; decide))]), trivial⟩)
      ·
       have h5 := r5
       have h5 := bif_f r4 h5
       have h5 := not_f h5
       refine hw_skip ?_; refine gy ?_; (iterate 3 refine qy ?_); refine rg_nil ?_; refine ⟨i + 1, ?_, ?_, ?_⟩
       · refine ⟨by omega, fun j hj => ?_⟩
         rcases Nat.lt_or_eq_of_le (Nat.le_of_lt_succ hj) with h | h
         · exact hI j h
         · subst h
           exact (inU_iff (by omega) (by omega)).2 (by simp_all)
       · first | omega | (dsimp only; omega)
       · exact ⟨⟨zy, c9, c9, trivial⟩, trivial⟩
    ·
     have h3 := of_decide_eq_false r3
     try simp only [ty] at h3
     obtain rfl : i = l.length := by omega
     refine hw_exit ?_; refine hw_seq ?_; refine gy ?_; refine qy ?_; refine rg_nil ?_; refine hw_ret ?_; refine ⟨.inr rfl, ?_⟩
     exact f9 rfl rfl (⟨cci (by rw [vErr, if_neg (by omega), if_neg (by omega), if_pos (all_t fun j hj => hI j hj)]), trivial⟩)
theorem good226 : goodFn Tryz.prog 226 := ⟨Tryz.f226, Tryz.func226, by kernel_rfl, by kernel_rfl⟩
theorem cImp (l : List Fd) (x : Fd) : HPure Tryz.prog 226 [pP (fdl l), x.pc] (prOf [pB (imp l x)]) := by
 refine hpure_of (nt := 13) Tryzok Tryz.func226 rfl rfl l9 ?_; refine hw_seq ?_; refine gy ?_; refine m9 0 ?_; refine qy ?_; refine rg_nil ?_; refine hw_seq ?_
 refine hw_draw (E := TryzE) Tryzok Tryzmixed [0, 1, 2, 3, 4, 5, 6, 7, 8] ?_; (iterate 5 refine qy ?_); refine rc rfl rfl rfl rfl rfl rfl good119 (cClose l x.lhs) (CoL.refl _) rfl rfl ?_; (iterate 3 refine qy ?_); refine rg_nil ?_
 refine ⟨by kernel_rfl, ?_⟩; refine hw_ret ?_; refine ⟨.inr rfl, ?_⟩
 exact f9 rfl rfl (⟨ccb (decide_eq_decide.2 sub_iff_not), trivial⟩)
end Go.Hx
end
section
namespace Go.Hx
variable {α : Type}
theorem take_snoc [Inhabited α] {l : List α} {q : Nat} (hq : q < l.length) : l.take (q + 1) = l.take q ++ [l.getD q default] := by
 rw [List.take_add_one, List.getElem?_eq_getElem hq]
 simp [List.getD, hq]
theorem last_take [Inhabited α] {l : List α} {q : Nat} (h0 : 0 < q) (hq : q ≤ l.length) : (l.take q).getLast? = some (l.getD (q - 1) default) := by
 obtain ⟨k, rfl⟩ : ∃ k, q = k + 1 := ⟨q - 1, by omega⟩
 rw [take_snoc (by omega), List.getLast?_append]
 simp
section
variable [DecidableEq α]
def cmpF : Option α → List α → List α
 | _, [] => []
 | p, x :: l => if p = some x then cmpF p l else x :: cmpF (some x) l
def cmp1 (l : List α) : List α := cmpF none l
def lastOr (p : Option α) (l : List α) : Option α := match l.getLast? with | some y => some y | none => p
theorem lastOr_cons (p : Option α) (y : α) (l : List α) : lastOr p (y :: l) = lastOr (some y) l := by
 unfold lastOr
 cases l with
 | nil => rfl
 | cons z l => simp [List.getLast?_cons]
theorem cmpF_snoc (x : α) : ∀ (l : List α) (p : Option α), cmpF p (l ++ [x]) = cmpF p l ++ (if lastOr p l = some x then [] else [x])
 | [], p => by
  unfold lastOr
  simp only [List.nil_append, cmpF, List.getLast?_nil]
  by_cases h : p = some x <;> simp [h]
 | y :: l, p => by
  rw [lastOr_cons]
  simp only [List.cons_append, cmpF]
  split
  · rename_i h
    rw [cmpF_snoc x l p, h]
  · rw [cmpF_snoc x l (some y)]; rfl
theorem cmp1_step [Inhabited α] {l : List α} {q : Nat} (h0 : 0 < q) (hq : q < l.length) : cmp1 (l.take (q + 1)) = cmp1 (l.take q) ++ (if l.getD (q - 1) default = l.getD q default then [] else [l.getD q default]) := by
 unfold cmp1
 rw [take_snoc hq, cmpF_snoc]
 unfold lastOr
 rw [last_take h0 (by omega)]
 simp
theorem cmp1_pre [Inhabited α] {l : List α} : ∀ {k : Nat}, k ≤ l.length → (∀ j, 0 < j → j < k → ¬ l.getD j default = l.getD (j - 1) default) → cmp1 (l.take k) = l.take k
 | 0, _, _ => rfl
 | 1, hk, _ => by
  rw [take_snoc (by omega)]
  simp [cmp1, cmpF]
 | k + 2, hk, h => by
  rw [cmp1_step (by omega) (by omega), cmp1_pre (by omega) (fun j h1 h2 => h j h1 (by omega)), if_neg (fun e => h (k + 1) (by omega) (by omega) e.symm), ← take_snoc (by omega)]
theorem cmp1_sub : ∀ (l : List α) (p : Option α), ∀ x ∈ cmpF p l, x ∈ l
 | [], _, x, h => by simp [cmpF] at h
 | y :: l, p, x, h => by
  simp only [cmpF] at h
  split at h
  · exact List.mem_cons_of_mem _ (cmp1_sub l p x h)
  · rcases List.mem_cons.1 h with rfl | h
    · exact List.mem_cons_self
    · exact List.mem_cons_of_mem _ (cmp1_sub l _ x h)
theorem cmpF_mem : ∀ (l : List α) (p : Option α), ∀ x ∈ l, p = some x ∨ x ∈ cmpF p l
 | y :: l, p, x, h => by
  simp only [cmpF]
  split
  · rename_i hp
    rcases List.mem_cons.1 h with rfl | h
    · exact .inl hp
    · exact cmpF_mem l p x h
  · rcases List.mem_cons.1 h with rfl | h
    · exact .inr List.mem_cons_self
    · rcases cmpF_mem l (some y) x h with h | h
      · simp only [Option.some.injEq] at h
        subst h
        exact .inr List.mem_cons_self
      · exact .inr (List.mem_cons_of_mem _ h)
theorem mem_cmp1 {l : List α} {x : α} : x ∈ cmp1 l ↔ x ∈ l := ⟨cmp1_sub l none x, fun h => by
 rcases cmpF_mem l none x h with h | h
 · cases h
 · exact h⟩
end
section
variable [Inhabited α]
theorem getD_set_eq {l : List α} {p : Nat} {v : α} (hp : p < l.length) : (l.set p v).getD p default = v := by simp [List.getD, hp]
theorem getD_set_ne' {l : List α} {p j : Nat} {v : α} (h : j ≠ p) : (l.set p v).getD j default = l.getD j default := by
 simp only [List.getD, List.getElem?_set_ne (Ne.symm h)]
theorem co_set1 {wr wr' : Bool} {n p k : Nat} {e : TypeId} {c : α → Nat → PV} {l : List α} {v : α} {x : PV} (hw : wr' = true → wr = true) (hn : n = l.length) (hp : k = p) (hk : p < l.length) (hx : x = c v 0) :
 CoO (.arr wr 1 e n (setEl (lf c l) k 0 [x])) (.arr wr' 1 e n (lf c (l.set p v))) := by
 subst hp hx hn
 refine ⟨hw, rfl, rfl, rfl, fun i j hi hj => CoP.of_eq ?_⟩
 obtain rfl : j = 0 := by omega
 unfold setEl lf
 by_cases h : i = k
 · subst h
   rw [if_pos ⟨rfl, by omega, by simp⟩, getD_set_eq hk]
   rfl
 · rw [if_neg (by omega), getD_set_ne' h]
theorem co_setE {wr wr' : Bool} {n p k q d : Nat} {e : TypeId} {c : α → Nat → PV} {l l' : List α} (hw : wr' = true → wr = true) (hn : n = l.length) (hp : k = p) (hk : p < l.length) (hd : d = q) :
 CoO (.arr wr 1 e n (setEl (lf c l) k 0 [lf c l' d 0])) (.arr wr' 1 e n (lf c (l.set p (l'.getD q default)))) := co_set1 hw hn hp hk (by rw [hd]; rfl)
theorem co_cutZ {n m a : Nat} {cl : Bool} {c : α → Nat → PV} {l l' : List α} {z : List Value} {p : Option Int} {h : Option Int} (hn : less (upTo n h) p = l'.length) (hp : p = none) (ha : l'.length ≤ a) (hl : l' = l.take l'.length) :
 CoP (.sl (less (upTo n h) p) 1 cl (from_ (setZ (lf c l) a m z) p)) (psl 1 c l') := by
 subst hp
 refine CoP.sl hn.symm (.inl rfl) (fun h => by cases h) fun i j hi hj => CoP.of_eq ?_
 rw [hn] at hi
 show setZ (lf c l) a m z i j = lf c l' i j
 unfold setZ
 rw [if_neg (by omega)]
 simp only [lf, List.getD]
 have e : l'[i]? = l[i]? := by rw [hl, List.getElem?_take, if_pos hi]
 rw [e]
end
abbrev sC : AS → Nat → PV := fun s _ => asC s
structure CpI (l : List AS) (k p q : Nat) (m : List AS) : Prop where
 len : m.length = l.length
 kq : k < q
 pq : p < q
 ql : q ≤ l.length
 pre : m.take p = cmp1 (l.take q)
 high : ∀ j, q - 1 ≤ j → m.getD j default = l.getD j default
theorem CpI.start {l : List AS} {k : Nat} (h1 : 1 ≤ k) (hk : k < l.length) (h : ∀ j, 0 < j → j < k → ¬ l.getD j default = l.getD (j - 1) default) (hd : l.getD k default = l.getD (k - 1) default) : CpI l k k (k + 1) l :=
 ⟨rfl, by omega, by omega, by omega, by rw [cmp1_step (by omega) hk, if_pos hd.symm, List.append_nil, cmp1_pre (by omega) h], fun _ _ => rfl⟩
theorem CpI.skip {l : List AS} {k p q : Nat} {m : List AS} (h : CpI l k p q m) (hq : q < l.length) (he : m.getD q default = m.getD (q - 1) default) : CpI l k p (q + 1) m := by
 have hk := h.kq
 refine ⟨h.len, by omega, by have := h.pq; omega, hq, ?_, fun j hj => h.high j (by omega)⟩
 rw [h.high q (by omega), h.high (q - 1) (by omega)] at he
 rw [cmp1_step (by omega) hq, if_pos he.symm, List.append_nil, h.pre]
theorem CpI.keep {l : List AS} {k p q : Nat} {m : List AS} (h : CpI l k p q m) (hq : q < l.length) (he : ¬ m.getD q default = m.getD (q - 1) default) : CpI l k (p + 1) (q + 1) (m.set p (m.getD q default)) := by
 have hk := h.kq
 have hp := h.pq
 have hl := h.len
 refine ⟨by simp [hl], by omega, by omega, hq, ?_, fun j hj => by rw [getD_set_ne' (by omega)]; exact h.high j (by omega)⟩
 have e := h.high q (by omega)
 rw [e, h.high (q - 1) (by omega)] at he
 rw [cmp1_step (by omega) hq, if_neg (fun e => he e.symm), ← h.pre, take_snoc (by simp [hl]; omega), getD_set_eq (by omega), e]
 congr 1
 rw [List.take_set, List.set_eq_of_length_le (by simp; omega)]
theorem eq_of_i {l : List AS} {a b a' b' : Nat} (h : asI (l.getD a' default) = asI (l.getD b' default)) (ha : a' = a) (hb : b' = b) : l.getD a default = l.getD b default := by subst ha hb; exact asI_inj.1 h
theorem ne_of_i {l : List AS} {a b a' b' : Nat} (h : ¬ asI (l.getD a' default) = asI (l.getD b' default)) (ha : a' = a) (hb : b' = b) : ¬ l.getD a default = l.getD b default := by subst ha hb; exact fun e => h (congrArg asI e)
theorem co_all1 {l : List AS} {k : Nat} (hk : l.length ≤ k) (h : ∀ j, 0 < j → j < k → ¬ l.getD j default = l.getD (j - 1) default) : CoP (.sl l.length 1 false (lf sC l)) (asl (cmp1 l)) := by
 have := cmp1_pre (Nat.le_refl l.length) fun j h1 h2 => h j h1 (by omega)
 rw [List.take_length] at this
 rw [this]
 exact CoP.refl _
theorem co_cutC {l m : List AS} {k p q n a d : Nat} {cl : Bool} {z : List Value} (hC : CpI l k p q m) (hq : ¬ q < l.length) (ha : p ≤ a) : CoP (.sl (less (upTo n (some (p : Int))) none) 1 cl (from_ (setZ (lf sC m) a d z) none)) (asl (cmp1 l)) := by
 have e := hC.pre
 have h1 := hC.ql
 have h2 := hC.len
 have h3 := hC.pq
 rw [show q = l.length by omega, List.take_length] at e
 have el : (cmp1 l).length = p := by rw [← e]; simp; omega
 exact co_cutZ (by rw [el]; rfl) rfl (by omega) (by rw [el, e])
end Go.Hx
end
