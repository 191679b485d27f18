/- A part of the proof: Hx19 Hx23 Cs1 Cs3 V1 Cs4 V2 Cl1. -/
import Derived.Deep.AppendLies
import Derived.Laws.CopyRow
import Derived.Shelf.Spec.SlicesInsertGrow
import Derived.Test.YtidophngianjiaaGreatDoor7x14
import Derived.Test.YtidophngianjiaaGreatDoor7x15
set_option linter.all false
section
namespace Go.Hx
open Go.Proofs Go.Lib Go.RowKit
theorem az5 (w : World) (o : Obj) {r : Nat} (h : r < w.heap.size) : (w.alloc o).heap[r]? = w.heap[r]? := by
 show (w.heap.push o)[r]? = _
 rw [Array.getElem?_push_lt h, Array.getElem?_eq_getElem h]
def b30 (k : Nat) (xs vs : List Value) : List Value := xs.take k ++ vs ++ xs.drop k
structure b27 (w w' : World) (T s : Nat) (own v : Value) (n : Nat) (xs : List Value) : Prop where
 row : w'.ownsRow 0 T s v (n + 1) xs
 bl : Below 0 w w'
 out : ∀ g, g < w.heap.size → cg own ≠ some g → w'.heap[g]? = w.heap[g]?
 at_ : ∀ g, cg v = some g → w.heap.size ≤ g ∨ cg own = some g
def b31 (i : Nat) (F G : Nat → Nat → PV) : Nat → Nat → PV := fun k j => if k < i then F k j else if k = i then G 0 j else F (k - 1) j
theorem gj {id q : Nat} {x ob : ai} (h : lk [(q, x)] id = some ob) : id = q ∧ ob = x := by
 simp only [lk] at h
 by_cases hk : q = id
 · subst hk
   simp at h
   exact ⟨rfl, h.symm⟩
 · have : Nat.beq q id = false := by
    rw [Bool.eq_false_iff]; exact fun hb => hk (Nat.eq_of_beq_eq_true hb)
   rw [this] at h
   cases h
structure b32 (c : Ctx) (w w' : World) (T s a : Nat) (v : Value) (n : Nat) (ys : List Value) : Prop where
 row : w'.ownsRow 0 T s v (n + 1) ys
 bl : Below 0 w w'
 out : ∀ g, g < w.heap.size → ¬ c.blk a g → w'.heap[g]? = w.heap[g]?
 at_ : ∀ g, cg v = some g → w.heap.size ≤ g ∨ c.blk a g
theorem an7 {P : Program} {f : FuncId} {T s a : Nat} {y : Value} {F : Nat → Nat → PV} (hs : 0 < s)
 (h : ∀ (w : World) (ad : Option Addr), Calls P f #[.slice ad 0 0, y] w fun e w' => ∃ v, e = .returned v ∧ Below w.heap.size w w' ∧ (v = .slice ad 0 0 ∨ w'.ownsRow 0 T s v 0 [] ∧ ∀ g, cg v = some g → w.heap.size ≤ g)) :
 d7 P f [.one (.p (j7 (.slice none 0 0))), .one (.p (.raw y))] [] (.v (.one (.ref a 0))) [(a, .arr true s T 0 F)] [] := by
 intro w c us hM hrep
 obtain ⟨ad, rfl⟩ : ∃ ad, us = [.slice ad 0 0, y] := by
  match us, hrep with
  | [u0, u1], ⟨h0, h1, _⟩ =>
   obtain ⟨ad, cap, hv, _, _, hc, _⟩ := h0
   obtain rfl : cap = 0 := hc rfl
   exact ⟨ad, by rw [hv, show u1 = y from h1.1]⟩
 refine (h w ad).mono ?_
 rintro e w' ⟨v, rfl, hb, hor⟩
 have la : lk [(a, ai.arr true s T 0 F)] a = some (.arr true s T 0 F) := by simp [lk]
 have him : ∀ q ob, c.imm q = some ob → q < w.heap.size := fun q ob hq => (Array.getElem?_eq_some_iff.1 (hM.imm q ob hq)).1
 have hform : v.oneCell' = true := by
  rcases hor with rfl | ⟨hrow, _⟩
  · rfl
  · rcases hrow.2 with ⟨hv, _⟩ | ⟨g, cap, cur, hv, _⟩ <;> (subst hv; rfl)
 have hbk : ∃ bk : Nat → Prop, (∀ g, bk g → w.heap.size ≤ g) ∧ (bk = fy v ∧ w'.ownsRow 0 T s v 0 [] ∨ bk = noB ∧ b5 c.imm (.sl 0 s true F) v) := by
  rcases hor with rfl | ⟨hrow, hat⟩
  · exact ⟨noB, fun g hg => hg.elim, .inr ⟨rfl, ad, 0, rfl, Nat.le_refl _, Nat.zero_le _, fun _ => rfl, fun h => absurd h (Nat.lt_irrefl 0)⟩⟩
  · exact ⟨fy v, hat, .inl ⟨rfl, hrow⟩⟩
 obtain ⟨bk, hat, hok⟩ := hbk
 refine ⟨v, { c with own := fun q => if q = a then v else c.own q, blk := fun q => if q = a then bk else c.blk q }, rfl, ⟨hform, fun l hl => (by cases (gj hl).2), fun ob s1 e1 n1 ho1 hd => ?_⟩, ⟨fun id ob hl => ?_, fun id id' ob ob' q hl hl' _ _ => by rw [(gj hl).1, (gj hl').1], fun q ob hq => (hb.block q (him q ob hq)).trans (hM.imm q ob hq), fun id ob q hl hq => ?_⟩, ⟨hb.os, hb.tape, hb.output, hb.size, fun k hk => absurd hk (Nat.not_lt_zero k), hb.drawn⟩, fun q hq _ => ⟨hb.block q hq, rfl⟩, fun id ob q hl hq => ?_, fun id hid => absurd hid (by simp)⟩
 · obtain ⟨_, rfl⟩ := gj ho1
   simp only [ai.dim, Option.some.injEq, Prod.mk.injEq] at hd
   obtain ⟨rfl, rfl, rfl⟩ := hd
   exact ⟨Nat.le_refl _, fun _ => by simp⟩
 · obtain ⟨rfl, rfl⟩ := gj hl
   rcases hok with ⟨h1, h2⟩ | ⟨h1, h2⟩
   · exact ⟨hs, Nat.zero_le _, .inl ⟨by simpa using h1, [], by simpa using h2, fun i j hi => by omega⟩⟩
   · exact ⟨hs, Nat.zero_le _, .inr ⟨.inr rfl, by simpa using h1, by simpa using h2⟩⟩
 · obtain ⟨rfl, _⟩ := gj hl
   have hq' : bk q := by simpa using hq
   show c.imm q = none
   cases hc : c.imm q with
   | none => rfl
   | some ob => have := him q ob hc; have := hat q hq'; omega
 · obtain ⟨rfl, _⟩ := gj hl
   have hq' : bk q := by simpa using hq
   exact .inl (hat q hq')
def HE (nt : Nat) (st : HSt) (Q : HSt → Prop) : Prop := ∀ w0 m0 a w, Rel w0 m0 nt st.den a w → ∃ st' : HSt, Q st' ∧ Rel w0 m0 nt st'.den a w
theorem asd {nt : Nat} {st : HSt} {Q : HSt → Prop} (h : Q st) : HE nt st Q := fun _ _ _ _ hr => ⟨st, h, hr⟩
end Go.Hx
end
section
namespace Go.Hx
open Go.RowKit
abbrev AS := BitVec 32
abbrev asI (s : AS) : Int := (s.toNat : Int)
def asC (s : AS) : PV := .raw (.int .u32 (asI s))
theorem a9s {n : Int} (h0 : 0 ≤ n) (h1 : n < 4294967296) : IntKind.wrap .u32 n = n := nj (by simp only [inR, ju, l8]; omega)
theorem a8t (s : AS) : asI s < 4294967296 := by
 have := s.isLt
 unfold asI
 omega
theorem a2t (s : AS) : 0 ≤ asI s := Int.natCast_nonneg _
theorem mr (s : AS) : BitVec.ofInt 32 (asI s) = s := by
 unfold asI
 rw [BitVec.ofInt_natCast, BitVec.ofNat_toNat, BitVec.setWidth_eq]
theorem d6 {a b : AS} : asI a = asI b ↔ a = b := by
 unfold asI
 rw [Int.ofNat_inj]
 exact BitVec.toNat_inj
theorem a1o (s : AS) : IntKind.wrap .u32 (s.toNat : Int) = asI s := a9s (a2t s) (a8t s)
theorem o5 (a b : AS) : d9 .and .u32 (asI a) (asI b) = asI (a &&& b) := by
 show IntKind.wrap .u32 ((BitVec.ofInt 32 (asI a) &&& BitVec.ofInt 32 (asI b)).toNat : Int) = _
 rw [mr, mr, a1o]
theorem bOr (a b : AS) : d9 .or .u32 (asI a) (asI b) = asI (a ||| b) := by
 show IntKind.wrap .u32 ((BitVec.ofInt 32 (asI a) ||| BitVec.ofInt 32 (asI b)).toNat : Int) = _
 rw [mr, mr, a1o]
theorem a4l (a b : AS) : d9 .andNot .u32 (asI a) (asI b) = asI (a &&& ~~~b) := by
 show IntKind.wrap .u32 ((BitVec.ofInt 32 (asI a) &&& ~~~BitVec.ofInt 32 (asI b)).toNat : Int) = _
 rw [mr, mr, a1o]
theorem yl (a : AS) (n : Nat) : (asI a).fdiv (2 ^ (min n 32)) = asI (a >>> n) := by
 have e : (2 : Int) ^ (min n 32) = ((2 ^ (min n 32) : Nat) : Int) := by rw [Int.natCast_pow]; rfl
 rw [e]
 unfold asI
 rw [Int.fdiv_eq_ediv_of_nonneg _ (Int.natCast_nonneg _), ← Int.natCast_ediv, BitVec.toNat_ushiftRight, Nat.shiftRight_eq_div_pow]
 by_cases h : n ≤ 32
 · rw [Nat.min_eq_left h]
 · rw [Nat.min_eq_right (by omega)]
   have h1 := a.isLt
   have h2 : 2 ^ 32 ≤ 2 ^ n := Nat.pow_le_pow_right (by omega) (by omega)
   rw [Nat.div_eq_of_lt (by omega), Nat.div_eq_of_lt (Nat.lt_of_lt_of_le (by omega) h2)]
theorem ae0 (a : AS) (n : Nat) : IntKind.wrap .u32 (asI a * 2 ^ (min n 32)) = asI (a <<< n) := by
 have e : asI a * (2 : Int) ^ (min n 32) = ((a.toNat * 2 ^ (min n 32) : Nat) : Int) := by rw [Int.natCast_mul, Int.natCast_pow]; rfl
 rw [e]
 have hw : ∀ m : Nat, IntKind.wrap .u32 (m : Int) = ((m % 4294967296 : Nat) : Int) := by
  intro m
  simp [IntKind.wrap, IntKind.signed, IntKind.bits]
 rw [hw]
 unfold asI
 rw [BitVec.toNat_shiftLeft, Nat.shiftLeft_eq]
 by_cases h : n ≤ 32
 · rw [Nat.min_eq_left h]
 · rw [Nat.min_eq_right (by omega)]
   have h1 : a.toNat * 2 ^ 32 % 2 ^ 32 = 0 := Nat.mul_mod_left _ _
   have h2 : a.toNat * 2 ^ n % 2 ^ 32 = 0 := by
    obtain ⟨k, rfl⟩ : ∃ k, n = k + 32 := ⟨n - 32, by omega⟩
    rw [Nat.pow_add, ← Nat.mul_assoc]
    exact Nat.mul_mod_left _ _
   have h1 : a.toNat * 2 ^ 32 % 4294967296 = 0 := h1
   rw [h1, h2]
end Go.Hx
end
section
namespace Go.Hx
structure Fd where
 lhs : AS
 rhs : AS
instance : Inhabited Fd := ⟨⟨0, 0⟩⟩
theorem Fd.eq_iff {a b : Fd} : a = b ↔ a.lhs = b.lhs ∧ a.rhs = b.rhs := by cases a; cases b; simp
instance : DecidableEq Fd := fun a b => decidable_of_iff _ (Fd.eq_iff (a := a) (b := b)).symm
def Fd.c (x : Fd) : Nat → PV
 | 0 => asC x.lhs
 | 1 => asC x.rhs
 | _ => .any
def sub (a b : AS) : Prop := a &&& ~~~b = 0
instance : DecidablePred fun p : AS × AS => sub p.1 p.2 := fun p => inferInstanceAs (Decidable (_ = _))
instance {a b : AS} : Decidable (sub a b) := inferInstanceAs (Decidable (_ = _))
theorem cb {a b : AS} : sub a b ↔ ∀ i, i < 32 → a.getLsbD i = true → b.getLsbD i = true := by
 unfold sub
 constructor
 · intro h i hi ha
   have := congrArg (fun x : AS => x.getLsbD i) h
   simp only [BitVec.getLsbD_and, BitVec.getLsbD_not, hi, ha, decide_true, Bool.true_and] at this
   simpa using this
 · intro h
   apply BitVec.eq_of_getLsbD_eq
   intro i hi
   have := h i hi
   simp only [BitVec.getLsbD_and, BitVec.getLsbD_not, hi, decide_true, Bool.true_and]
   cases ha : a.getLsbD i <;> cases hb : b.getLsbD i <;> simp_all
theorem ns (a : AS) : sub a a := cb.2 fun _ _ h => h
theorem p7 {a b c : AS} (h : sub a b) (k : sub b c) : sub a c := cb.2 fun i hi ha => cb.1 k i hi (cb.1 h i hi ha)
theorem a1m {a b : AS} : sub a (a ||| b) := cb.2 fun i hi ha => by simp [ha]
theorem a1b {a b : AS} : sub b (a ||| b) := cb.2 fun i hi ha => by simp [ha]
theorem yc {a b c : AS} (h : sub a c) (k : sub b c) : sub (a ||| b) c := cb.2 fun i hi ha => by
 rw [BitVec.getLsbD_or, Bool.or_eq_true] at ha
 rcases ha with ha | ha
 · exact cb.1 h i hi ha
 · exact cb.1 k i hi ha
theorem ij {a b : AS} (h : sub a b) (k : sub b a) : a = b := by
 apply BitVec.eq_of_getLsbD_eq
 intro i hi
 have h1 := cb.1 h i hi
 have h2 := cb.1 k i hi
 cases ha : a.getLsbD i <;> cases hb : b.getLsbD i <;> simp_all
theorem awf {a b : AS} (h : sub a b) : a.toNat ≤ b.toNat := by
 have e : a ||| b = b := ij (yc h (ns b)) a1b
 have : a.toNat ≤ (a ||| b).toNat := by rw [BitVec.toNat_or]; exact Nat.left_le_or
 rwa [e] at this
theorem vg {a b : AS} (h : sub a b) (hne : a ≠ b) : a.toNat < b.toNat := by
 rcases Nat.lt_or_eq_of_le (awf h) with h | h
 · exact h
 · exact absurd (BitVec.eq_of_toNat_eq h) hne
theorem avt {a b : AS} : sub a b ↔ a &&& b = a := by
 rw [cb]
 constructor
 · intro h
   apply BitVec.eq_of_getLsbD_eq
   intro i hi
   have := h i hi
   rw [BitVec.getLsbD_and]
   cases ha : a.getLsbD i <;> simp_all
 · intro h i hi ha
   have := congrArg (fun x : AS => x.getLsbD i) h
   simp only [BitVec.getLsbD_and, ha, Bool.true_and] at this
   exact this
def ef (s : AS) (f : Fd) : AS := if sub f.lhs s then s ||| f.rhs else s
def cj (l : List Fd) (s : AS) : AS := l.foldl ef s
theorem a3f {s : AS} {f : Fd} : sub s (ef s f) := by
 unfold ef
 split
 · exact a1m
 · exact ns s
theorem ji : ∀ {l : List Fd} {s : AS}, sub s (cj l s)
 | [], s => ns s
 | f :: l, s => p7 a3f (ji (l := l) (s := ef s f))
def clF (l : List Fd) : Nat → AS → AS
 | 0, s => s
 | n + 1, s => if cj l s = s then s else clF l n (cj l s)
def clo (l : List Fd) (s : AS) : AS := clF l 4294967296 s
theorem a8f {l : List Fd} : ∀ {n m : Nat} {s : AS}, 4294967296 - s.toNat ≤ n → 4294967296 - s.toNat ≤ m → clF l n s = clF l m s
 | 0, m, s, hn, hm => by have := s.isLt; omega
 | n + 1, 0, s, hn, hm => by have := s.isLt; omega
 | n + 1, m + 1, s, hn, hm => by
  unfold clF
  split
  · rfl
  · rename_i hne
    have := vg (ji (l := l) (s := s)) (fun e => hne e.symm)
    exact a8f (by omega) (by omega)
theorem ad3 {l : List Fd} {s : AS} (h : cj l s = s) : clo l s = s := by
 show clF l (4294967295 + 1) s = s
 unfold clF
 rw [if_pos h]
theorem aa9 {l : List Fd} {s : AS} : clo l (cj l s) = clo l s := by
 by_cases h : cj l s = s
 · rw [h]
 · have e : clo l s = clF l 4294967295 (cj l s) := by
    show clF l (4294967295 + 1) s = _
    rw [clF, if_neg h]
   rw [e]
   have := vg (ji (l := l) (s := s)) (fun e => h e.symm)
   exact a8f (by omega) (by omega)
theorem a3a {l : List Fd} : ∀ {n : Nat} {s : AS}, 4294967296 - s.toNat ≤ n → cj l (clF l n s) = clF l n s
 | 0, s, hn => by have := s.isLt; omega
 | n + 1, s, hn => by
  unfold clF
  split
  · assumption
  · rename_i hne
    have := vg (ji (l := l) (s := s)) (fun e => hne e.symm)
    exact a3a (by omega)
theorem afe {l : List Fd} {s : AS} : cj l (clo l s) = clo l s := a3a (by omega)
theorem aku {l : List Fd} : ∀ {n : Nat} {s : AS}, sub s (clF l n s)
 | 0, s => ns s
 | n + 1, s => by
  unfold clF
  split
  · exact ns s
  · exact p7 ji aku
theorem a9w {l : List Fd} {s : AS} : sub s (clo l s) := aku
def nu (l : List Fd) (s : AS) : Prop := ∀ f ∈ l, sub f.lhs s → sub f.rhs s
theorem pf : ∀ {l : List Fd} {s : AS}, cj l s = s ↔ nu l s
 | [], s => ⟨fun _ f hf => (by cases hf), fun _ => rfl⟩
 | f :: l, s => by
  constructor
  · intro h
    have h1 : ef s f = s := ij (by have := ji (l := l) (s := ef s f); rw [show cj l (ef s f) = s from h] at this; exact this) a3f
    have h2 : cj l s = s := by
     have : cj l (ef s f) = s := h
     rwa [h1] at this
    intro g hg
    rcases List.mem_cons.1 hg with rfl | hg
    · intro hl
      rw [ef, if_pos hl] at h1
      rw [← h1]
      exact a1b
    · exact pf.1 h2 g hg
  · intro h
    have h1 : ef s f = s := by
     unfold ef
     split
     · rename_i hl
       exact ij (yc (ns s) (h f (List.mem_cons_self ..) hl)) a1m
     · rfl
    show cj l (ef s f) = s
    rw [h1]
    exact pf.2 fun g hg => h g (List.mem_cons_of_mem _ hg)
theorem a33 : ∀ {l : List Fd} {s t : AS}, nu l t → sub s t → sub (cj l s) t
 | [], s, t, _, h => h
 | f :: l, s, t, ht, h => a33 (l := l) (fun g hg => ht g (List.mem_cons_of_mem _ hg)) (by
  unfold ef
  split
  · rename_i hl
    exact yc h (ht f (List.mem_cons_self ..) (p7 hl h))
  · exact h)
theorem aco {l : List Fd} {t : AS} (ht : nu l t) : ∀ {n : Nat} {s : AS}, sub s t → sub (clF l n s) t
 | 0, s, h => h
 | n + 1, s, h => by
  unfold clF
  split
  · exact h
  · exact aco ht (a33 ht h)
theorem a6f {l : List Fd} {s t : AS} (ht : nu l t) (h : sub s t) : sub (clo l s) t := aco ht h
theorem xj {l : List Fd} {s : AS} : nu l (clo l s) := pf.1 afe
end Go.Hx
end
section
namespace Go.Hx
abbrev pI (a : Int) : PC := .one (.raw (.int .i64 a))
abbrev pB (b : Bool) : PC := .one (.raw (.bool b))
abbrev pP (x : PV) : PC := .one x
abbrev pA (s : AS) : PC := .one (.raw (.int .u32 (asI s)))
abbrev fdl (l : List Fd) : PV := psl 2 Fd.c l
abbrev asl (l : List AS) : PV := psl 1 (fun s _ => asC s) l
abbrev vI (a : Int) : HR := br (.raw (.int .i64 a))
abbrev vA (s : AS) : HR := br (.raw (.int .u32 (asI s)))
theorem a3s {l : List Fd} {s : AS} {i : Nat} (hi : i < l.length) : cj (l.take (i + 1)) s = ef (cj (l.take i) s) (l.getD i default) := by
 unfold cj
 rw [List.take_succ, List.getElem?_eq_getElem hi, List.foldl_append, List.getD_eq_getElem?_getD, List.getElem?_eq_getElem hi]
 rfl
theorem lh {a b : AS} : d9 .andNot .u32 (asI a) (asI b) = 0 ↔ sub a b := by
 rw [a4l, show (0 : Int) = asI 0 from rfl, d6]
 exact Iff.rfl
theorem awd {S : AS} {f : Fd} (h : d9 .andNot .u32 (asI f.lhs) (asI S) = 0) : d9 .or .u32 (asI S) (asI f.rhs) = asI (ef S f) := by
 rw [bOr, ef, if_pos (lh.1 h)]
theorem awl {S : AS} {f : Fd} (h : ¬ d9 .andNot .u32 (asI f.lhs) (asI S) = 0) : ef S f = S := if_neg fun e => h (lh.2 e)
theorem cl_t' {S : AS} {f : Fd} (h : decide (sub f.lhs S) = true) : d9 .or .u32 (asI S) (asI f.rhs) = asI (ef S f) := by
 rw [bOr, ef, if_pos (of_decide_eq_true h)]
theorem cl_f' {S : AS} {f : Fd} (h : decide (sub f.lhs S) = false) : ef S f = S := if_neg (of_decide_eq_false h)
def inU (n : Int) (f : Fd) : Bool := decide ((f.lhs ||| f.rhs) >>> n.toNat = 0)
def ca (n : Int) (l : List Fd) : Int := if n < 0 ∨ 16 < n then 7 else if 64 < l.length then 3 else if l.all (inU n) = true then 0 else 1
theorem zq {n : Int} {f : Fd} : (d9 .or .u32 (asI f.lhs) (asI f.rhs)).fdiv (2 ^ (min n.toNat 32)) = 0 ↔ inU n f = true := by
 rw [bOr, yl, show (0 : Int) = asI 0 from rfl, d6]
 unfold inU
 rw [decide_eq_true_iff]
theorem n7 {k : IntKind} {a b : Int} (h : a = b) : CoR (br (.raw (.int k a))) (br (.raw (.int k b))) := by
 rw [h]
 exact CoR.refl _
def ik (n : Nat) : AS := (List.range n).foldl (fun s i => s ||| ((1 : AS) <<< i)) 0
def bw (n : Int) : AS := ik (min n.toNat 32)
theorem a41 (i : Nat) : ik (i + 1) = ik i ||| ((1 : AS) <<< i) := by
 unfold ik
 rw [List.range_succ, List.foldl_append]
 rfl
theorem ak0 (i : Nat) : d9 .or .u32 (asI (ik i)) (IntKind.wrap .u32 (1 * 2 ^ (min i 32))) = asI (ik (i + 1)) := by
 have e : IntKind.wrap .u32 (1 * 2 ^ (min i 32)) = asI ((1 : AS) <<< i) := ae0 1 i
 rw [e, bOr, a41]
end Go.Hx
end
section
namespace Go.Hx
open Go.Proofs
set_option maxRecDepth 100000
set_option maxHeartbeats 1000000
theorem yi : goodFn Tryz.prog 81 := ⟨Tryz.f81, Tryz.func81, by kernel_rfl, by kernel_rfl⟩
theorem a3n (a b : AS) : aj Tryz.prog 81 [pA a, pA b] (aq [pB (decide (sub a b))]) := by
 refine ag (nt := 10) af Tryz.func81 rfl rfl l9 ?_; refine sx7 ?_; refine qy ?_; refine a6 ?_; refine sx7 ?_; (iterate 6 refine qy ?_); refine a6 ?_
 exact hx8 rfl rfl rfl (⟨ccb (decide_eq_decide.2 (by rw [o5, d6]; exact avt.symm)), trivial⟩)
theorem zz : goodFn Tryz.prog 119 := ⟨Tryz.f119, Tryz.func119, by kernel_rfl, by kernel_rfl⟩
theorem a3k (l : List Fd) (s0 : AS) : aj Tryz.prog 119 [pP (fdl l), pA s0] (aq [pA (clo l s0)]) := by
 refine ag (nt := 29) af Tryz.func119 rfl rfl l9 ?_; refine a7 ?_
 refine ce 0 rfl fun hlen => ?_
 refine gy ?_; refine qy ?_; refine a6 ?_; refine ae ?_
 refine ak (ι := AS) ⟨[(0, some _)], []⟩ ⟨⟨c9, trivial⟩, trivial⟩ (fun s => ⟨[(1, some (vA s))], []⟩) (fun s => clo l s = clo l s0) (fun s => 4294967296 - s.toNat) (s0) (rfl) ⟨⟨zy, trivial⟩, trivial⟩ ?_
 rintro s hs
 refine ae ?_; refine sx7 ?_; (iterate 2 refine qy ?_); refine a6 ?_; refine a7 ?_; refine sx7 ?_; (iterate 3 refine qy ?_); refine a6 ?_; refine ae ?_
 refine ak (ι := Nat) ⟨[(0, some _), (5, some _), (9, some _), (10, some _)], []⟩ ⟨⟨c9, c9, c9, c9, trivial⟩, trivial⟩ (fun i => ⟨[(11, some (vI i)), (1, some (vA (cj (l.take i) s)))], []⟩) (fun i => i ≤ l.length) (fun i => l.length - i) (0) (Nat.zero_le _) ⟨⟨zy, zy, trivial⟩, trivial⟩ ?_
 rintro i hi
 refine sx7 ?_; refine qy ?_; refine a6 ?_; refine a7 ?_; refine a8 _ rfl (fun r0 => ?_) (fun r0 => ?_)
 ·
  have h0 := of_decide_eq_true r0
  try simp only [ty] at h0
  refine aa ?_; refine a7 ?_; refine ae ?_; refine sx7 ?_; (iterate 2 refine qy ?_); refine m9 0 ?_; refine s9 ?_; refine a6 ?_; refine sx7 ?_; (iterate 5 refine qy ?_); refine a6 ?_
  refine a8 _ rfl (fun r1 => ?_) (fun r1 => ?_)
  ·
   have h1 := of_decide_eq_true r1
   try simp only [ty] at h1
   refine gy ?_; (iterate 5 refine qy ?_); refine a6 ?_; refine gy ?_; (iterate 2 refine qy ?_); refine a6 ?_; refine ⟨i + 1, ?_, ?_, ?_⟩
   · show i + 1 ≤ _; omega
   · first | omega | (dsimp only; omega)
   · exact ⟨⟨zy, ⟨_, rfl, (by rw [a3s (by omega)]; first | (rw [awl (by assumption)]; exact CoR.refl _) | (simp only [Int.toNat_natCast]; rw [awd (by assumption)]; exact CoR.refl _))⟩, c9, c9, c9, c9, trivial⟩, trivial⟩
  ·
   have h1 := of_decide_eq_false r1
   try simp only [ty] at h1
   refine aa ?_; refine gy ?_; (iterate 2 refine qy ?_); refine a6 ?_; refine ⟨i + 1, ?_, ?_, ?_⟩
   · show i + 1 ≤ _; omega
   · first | omega | (dsimp only; omega)
   · exact ⟨⟨zy, ⟨_, rfl, (by rw [a3s (by omega)]; first | (rw [awl (by assumption)]; exact CoR.refl _) | (simp only [Int.toNat_natCast]; rw [awd (by assumption)]; exact CoR.refl _))⟩, c9, c9, c9, c9, trivial⟩, trivial⟩
 ·
  have h0 := of_decide_eq_false r0
  try simp only [ty] at h0
  obtain rfl : i = l.length := by omega
  refine am ?_; refine sx7 ?_; (iterate 3 refine qy ?_); refine a6 ?_; refine a8 _ rfl (fun r2 => ?_) (fun r2 => ?_)
  ·
   have h2 := of_decide_eq_true r2
   try simp only [ty] at h2
   refine sx7 ?_; (iterate 2 refine qy ?_); refine a6 ?_; refine ap ?_; refine ⟨.inr rfl, ?_⟩
   have e2 : cj l s = s := by
    have := d6.1 (by assumption)
    rwa [List.take_length] at this
   exact f9 rfl rfl (⟨cci (by rw [List.take_length, e2, ← hs, ad3 e2]), trivial⟩)
  ·
   have h2 := of_decide_eq_false r2
   try simp only [ty] at h2
   refine aa ?_; refine ⟨cj l s, ?_, ?_, ?_⟩
   · show clo l (cj l s) = clo l s0
     rw [aa9]; exact hs
   · have hne : ¬ cj l s = s := fun e => absurd (congrArg asI e) (by rw [List.take_length] at *; assumption)
     have := vg (ji (l := l) (s := s)) (fun e => hne e.symm)
     have := (cj l s).isLt
     show 4294967296 - (cj l s).toNat < 4294967296 - s.toNat
     omega
   · exact ⟨⟨⟨_, rfl, (by rw [List.take_length]; exact CoR.refl _)⟩, c9, trivial⟩, trivial⟩
theorem avw : goodFn Tryz.prog 128 := ⟨Tryz.f128, Tryz.func128, by kernel_rfl, by kernel_rfl⟩
theorem ato (l : List Fd) (s0 : AS) : aj Tryz.prog 128 [pP (fdl l), pA s0] (aq [pA (clo l s0)]) := by
 refine ag (nt := 32) af Tryz.func128 rfl rfl l9 ?_; refine a7 ?_
 refine ce 0 rfl fun hlen => ?_
 refine gy ?_; refine qy ?_; refine a6 ?_; refine ae ?_
 refine ak (ι := AS) ⟨[(0, some _)], []⟩ ⟨⟨c9, trivial⟩, trivial⟩ (fun s => ⟨[(1, some (vA s))], []⟩) (fun s => clo l s = clo l s0) (fun s => 4294967296 - s.toNat) (s0) (rfl) ⟨⟨zy, trivial⟩, trivial⟩ ?_
 rintro s hs
 refine ae ?_; refine sx7 ?_; (iterate 2 refine qy ?_); refine a6 ?_; refine a7 ?_; refine sx7 ?_; refine qy ?_; refine a6 ?_; refine ae ?_
 refine ak (ι := Nat) ⟨[(0, some _), (5, some _)], []⟩ ⟨⟨c9, c9, trivial⟩, trivial⟩ (fun i => ⟨[(6, some (vI i)), (1, some (vA (cj (l.take i) s)))], []⟩) (fun i => i ≤ l.length) (fun i => l.length - i) (0) (Nat.zero_le _) ⟨⟨zy, zy, trivial⟩, trivial⟩ ?_
 rintro i hi
 refine a7 ?_; refine sx7 ?_; (iterate 4 refine qy ?_); refine a6 ?_; refine a8 _ rfl (fun r0 => ?_) (fun r0 => ?_)
 ·
  have h0 := of_decide_eq_true r0
  try simp only [ty] at h0
  refine aa ?_; refine a7 ?_; refine ae ?_; refine sx7 ?_; (iterate 6 refine qy ?_); refine rc rfl rfl rfl rfl rfl rfl yi (a3n (l.getD i default).lhs (cj (l.take i) s)) (CoL.refl _) rfl rfl ?_
  refine a6 ?_; refine a8 _ rfl (fun r1 => ?_) (fun r1 => ?_)
  ·
   have h1 := r1
   refine gy ?_; (iterate 8 refine qy ?_); refine a6 ?_; refine gy ?_; (iterate 3 refine qy ?_); refine a6 ?_; refine ⟨i + 1, ?_, ?_, ?_⟩
   · show i + 1 ≤ _; omega
   · first | omega | (dsimp only; omega)
   · exact ⟨⟨zy, ⟨_, rfl, (by rw [a3s (by omega)]; first | (rw [cl_f' (by assumption)]; exact CoR.refl _) | (simp only [Int.toNat_natCast]; rw [cl_t' (by assumption)]; exact CoR.refl _))⟩, c9, c9, trivial⟩, trivial⟩
  ·
   have h1 := r1
   refine aa ?_; refine gy ?_; (iterate 3 refine qy ?_); refine a6 ?_; refine ⟨i + 1, ?_, ?_, ?_⟩
   · show i + 1 ≤ _; omega
   · first | omega | (dsimp only; omega)
   · exact ⟨⟨zy, ⟨_, rfl, (by rw [a3s (by omega)]; first | (rw [cl_f' (by assumption)]; exact CoR.refl _) | (simp only [Int.toNat_natCast]; rw [cl_t' (by assumption)]; exact CoR.refl _))⟩, c9, c9, trivial⟩, trivial⟩
 ·
  have h0 := of_decide_eq_false r0
  try simp only [ty] at h0
  obtain rfl : i = l.length := by omega
  refine am ?_; refine sx7 ?_; (iterate 3 refine qy ?_); refine a6 ?_; refine a8 _ rfl (fun r2 => ?_) (fun r2 => ?_)
  ·
   have h2 := of_decide_eq_true r2
   try simp only [ty] at h2
   refine sx7 ?_; (iterate 2 refine qy ?_); refine a6 ?_; refine ap ?_; refine ⟨.inr rfl, ?_⟩
   have e2 : cj l s = s := by
    have := d6.1 (by assumption)
    rwa [List.take_length] at this
   exact f9 rfl rfl (⟨cci (by rw [List.take_length, e2, ← hs, ad3 e2]), trivial⟩)
  ·
   have h2 := of_decide_eq_false r2
   try simp only [ty] at h2
   refine aa ?_; refine ⟨cj l s, ?_, ?_, ?_⟩
   · show clo l (cj l s) = clo l s0
     rw [aa9]; exact hs
   · have hne : ¬ cj l s = s := fun e => absurd (congrArg asI e) (by rw [List.take_length] at *; assumption)
     have := vg (ji (l := l) (s := s)) (fun e => hne e.symm)
     have := (cj l s).isLt
     show 4294967296 - (cj l s).toNat < 4294967296 - s.toNat
     omega
   · exact ⟨⟨⟨_, rfl, (by rw [List.take_length]; exact CoR.refl _)⟩, c9, trivial⟩, trivial⟩
theorem yh : goodFn Tryz.prog 82 := ⟨Tryz.f82, Tryz.func82, by kernel_rfl, by kernel_rfl⟩
theorem xf (n : Int) (l : List Fd) : aj Tryz.prog 82 [pI n, pP (fdl l)] (aq [pI (ca n l)]) := by
 refine ag (nt := 31) af Tryz.func82 rfl rfl l9 ?_; refine a7 ?_
 refine ce 1 rfl fun hlen => ?_
 refine gy ?_; refine qy ?_; refine a6 ?_; refine a7 ?_; refine sx7 ?_; (iterate 3 refine qy ?_); refine bh rfl rfl (fun r0 => ?_) (fun r0 => ?_)
 ·
  have h0 := of_decide_eq_true r0
  try simp only [ty] at h0
  (iterate 2 refine k9 (gtf r0) ?_); refine rq rfl rfl rfl rfl rfl ?_ (hp := r0); refine a6 ?_; refine a8 _ rfl (fun _ => ?_) (fun e => by cases e); refine sx7 ?_; refine qy ?_; refine a6 ?_
  exact hx8 rfl rfl rfl (⟨cci (by rw [ca, if_pos (by omega)]), trivial⟩)
 ·
  have h0 := of_decide_eq_false r0
  try simp only [ty] at h0
  (iterate 2 refine qy ?_ (hg := (gff r0))); refine qy ?_; refine a6 ?_; refine a8 _ rfl (fun r1 => ?_) (fun r1 => ?_)
  ·
   have h1 := r1
   have h1 := bo r0 h1
   have h1 := of_decide_eq_true h1
   try simp only [ty] at h1
   refine sx7 ?_; refine qy ?_; refine a6 ?_
   exact hx8 rfl rfl rfl (⟨cci (by rw [ca, if_pos (by omega)]), trivial⟩)
  ·
   have h1 := r1
   have h1 := bo r0 h1
   have h1 := of_decide_eq_false h1
   try simp only [ty] at h1
   refine aa ?_; refine a7 ?_; refine sx7 ?_; (iterate 3 refine qy ?_); refine a6 ?_; refine a8 _ rfl (fun r2 => ?_) (fun r2 => ?_)
   ·
    have h2 := of_decide_eq_true r2
    try simp only [ty] at h2
    refine sx7 ?_; refine qy ?_; refine a6 ?_
    exact hx8 rfl rfl rfl (⟨cci (by rw [ca, if_neg (by omega), if_pos (by omega)]), trivial⟩)
   ·
    have h2 := of_decide_eq_false r2
    try simp only [ty] at h2
    refine aa ?_; refine a7 ?_; refine sx7 ?_; (iterate 3 refine qy ?_); refine a6 ?_; refine ae ?_
    refine ak (ι := Nat) ⟨[(0, some _), (16, some _), (17, some _)], []⟩ ⟨⟨c9, c9, c9, trivial⟩, trivial⟩ (fun i => ⟨[(18, some (vI i))], []⟩) (fun i => i ≤ l.length ∧ ∀ j, j < i → inU n (l.getD j default) = true) (fun i => l.length - i) (0) (⟨Nat.zero_le _, fun j hj => absurd hj (Nat.not_lt_zero j)⟩) ⟨⟨zy, trivial⟩, trivial⟩ ?_
    rintro i ⟨hi, hI⟩
    refine sx7 ?_; refine qy ?_; refine a6 ?_; refine a7 ?_; refine a8 _ rfl (fun r3 => ?_) (fun r3 => ?_)
    ·
     have h3 := of_decide_eq_true r3
     try simp only [ty] at h3
     refine aa ?_; refine a7 ?_; refine ae ?_; refine sx7 ?_; (iterate 2 refine qy ?_); refine m9 0 ?_; refine s9 ?_; refine a6 ?_; refine sx7 ?_; (iterate 8 refine qy ?_); refine a6 ?_
     refine a8 _ rfl (fun r4 => ?_) (fun r4 => ?_)
     ·
      have h4 := r4
      have h4 := of_decide_eq_false (az h4)
      try simp only [ty] at h4
      refine sx7 ?_; refine qy ?_; refine a6 ?_
      exact hx8 rfl rfl rfl (⟨cci (by rw [ca, if_neg (by omega), if_neg (by omega), if_neg (fun e => absurd (a2p (l := l) (p := inU n) (i := i) (by omega) (by rw [Bool.eq_false_iff]; exact fun e => absurd (zq.2 e) (by assumption))) (by rw [e]; decide))]), trivial⟩)
     ·
      have h4 := r4
      have h4 := of_decide_eq_true (b4 h4)
      try simp only [ty] at h4
      refine aa ?_; refine gy ?_; (iterate 2 refine qy ?_); refine a6 ?_; refine ⟨i + 1, ?_, ?_, ?_⟩
      · refine ⟨by omega, fun j hj => ?_⟩
        rcases Nat.lt_or_eq_of_le (Nat.le_of_lt_succ hj) with h | h
        · exact hI j h
        · subst h
          exact zq.1 (by assumption)
      · first | omega | (dsimp only; omega)
      · exact ⟨⟨zy, c9, c9, c9, trivial⟩, trivial⟩
    ·
     have h3 := of_decide_eq_false r3
     try simp only [ty] at h3
     obtain rfl : i = l.length := by omega
     refine am ?_; refine sx7 ?_; refine qy ?_; refine a6 ?_
     exact hx8 rfl rfl rfl (⟨cci (by rw [ca, if_neg (by omega), if_neg (by omega), if_pos (a7q fun j hj => hI j hj)]), trivial⟩)
theorem yk : goodFn Tryz.prog 20 := ⟨Tryz.f20, Tryz.func20, by kernel_rfl, by kernel_rfl⟩
theorem y9 (n : Int) : aj Tryz.prog 20 [pI n] (aq [pA (bw n)]) := by
 refine ag (nt := 19) af Tryz.func20 rfl rfl l9 ?_; refine sx7 ?_; refine qy ?_; refine a6 ?_; refine sx7 ?_; refine qy ?_; refine a6 ?_; refine a7 ?_; refine sx7 ?_; refine qy ?_; refine a6 ?_
 refine ae ?_
 refine ak (ι := Nat) ⟨[(0, some _)], []⟩ ⟨⟨c9, trivial⟩, trivial⟩ (fun i => ⟨[(4, some (vI i)), (3, some (vA (ik i)))], []⟩) (fun i => i ≤ min n.toNat 32) (fun i => min n.toNat 32 - i) (0) (Nat.zero_le _) ⟨⟨zy, zy, trivial⟩, trivial⟩ ?_
 rintro i hi
 refine a7 ?_; refine sx7 ?_; (iterate 4 refine qy ?_); refine bh rfl rfl (fun r0 => ?_) (fun r0 => ?_)
 ·
  have h0 := of_decide_eq_true r0
  try simp only [ty] at h0
  (iterate 2 refine qy ?_ (hg := (gtt r0))); refine qy ?_; refine a6 ?_; refine a8 _ rfl (fun r1 => ?_) (fun r1 => ?_)
  ·
   have h1 := r1
   have h1 := dw r0 h1
   have h1 := of_decide_eq_true h1
   try simp only [ty] at h1
   refine aa ?_; refine a7 ?_; refine ae ?_; refine gy ?_; (iterate 5 refine qy ?_); refine a6 ?_; refine gy ?_; (iterate 3 refine qy ?_); refine a6 ?_; refine ⟨i + 1, ?_, ?_, ?_⟩
   · show i + 1 ≤ _; omega
   · first | omega | (dsimp only; omega)
   · exact ⟨⟨zy, ⟨_, rfl, (by simp only [Int.toNat_natCast]; exact n7 (ak0 i))⟩, c9, trivial⟩, trivial⟩
  ·
   have h1 := r1
   have h1 := dw r0 h1
   have h1 := of_decide_eq_false h1
   try simp only [ty] at h1
   obtain rfl : i = min n.toNat 32 := by omega
   refine am ?_; refine sx7 ?_; (iterate 2 refine qy ?_); refine a6 ?_
   exact hx8 rfl rfl rfl (CoL.refl _)
 ·
  have h0 := of_decide_eq_false r0
  try simp only [ty] at h0
  obtain rfl : i = min n.toNat 32 := by omega
  (iterate 2 refine k9 (gft r0) ?_); refine rq rfl rfl rfl rfl rfl ?_ (hp := r0); refine a6 ?_; refine a8 _ rfl (fun e => by cases e) (fun _ => ?_); refine am ?_; refine sx7 ?_; (iterate 2 refine qy ?_)
  refine a6 ?_
  exact hx8 rfl rfl rfl (CoL.refl _)
end Go.Hx
end
section
namespace Go.Hx
theorem ul (i k : Nat) (hk : k < 32) : ((1 : AS) <<< i).getLsbD k = decide (k = i) := by
 rw [BitVec.getLsbD_shiftLeft]
 by_cases h : k < i
 · simp [h, hk]; omega
 · by_cases e : k = i
   · subst e; simp [hk]
   · have : 0 < k - i := by omega
     simp [hk, h, e, BitVec.getLsbD_one]
     omega
theorem mf : ∀ (n k : Nat), k < 32 → (ik n).getLsbD k = decide (k < n)
 | 0, k, hk => by simp [ik]
 | n + 1, k, hk => by
  rw [a41, BitVec.getLsbD_or, mf n k hk, ul n k hk]
  by_cases h : k < n
  · simp [h]; omega
  · by_cases e : k = n
    · simp [e]
    · simp [h, e]; omega
theorem axl {s : AS} {n : Nat} : s >>> n = 0 ↔ ∀ k, k < 32 → n ≤ k → s.getLsbD k = false := by
 constructor
 · intro h k hk hn
   have := congrArg (fun x : AS => x.getLsbD (k - n)) h
   simp only [BitVec.getLsbD_ushiftRight] at this
   rw [show n + (k - n) = k by omega] at this
   simpa using this
 · intro h
   apply BitVec.eq_of_getLsbD_eq
   intro i hi
   rw [BitVec.getLsbD_ushiftRight]
   by_cases hk : n + i < 32
   · rw [h (n + i) hk (by omega)]; simp
   · rw [BitVec.getLsbD_of_ge _ _ (by omega)]; simp
theorem pn {s : AS} {n : Nat} (hn : n ≤ 32) : sub s (ik n) ↔ s >>> n = 0 := by
 rw [cb, axl]
 constructor
 · intro h k hk hle
   rw [Bool.eq_false_iff]
   intro e
   have := h k hk e
   rw [mf n k hk, decide_eq_true_iff] at this
   omega
 · intro h k hk e
   rw [mf n k hk, decide_eq_true_iff]
   apply Nat.lt_of_not_le
   intro hle
   rw [h k hk hle] at e
   cases e
theorem o9 {n : Int} (hn : 0 ≤ n) (h16 : n ≤ 16) {f : Fd} : inU n f = true ↔ sub f.lhs (bw n) ∧ sub f.rhs (bw n) := by
 unfold inU bw
 rw [decide_eq_true_iff, Nat.min_eq_left (by omega), ← pn (by omega)]
 exact ⟨fun h => ⟨p7 a1m h, p7 a1b h⟩, fun h => yc h.1 h.2⟩
abbrev Fd.pc (f : Fd) : PC := .agg [f.c 0, f.c 1]
def imp (l : List Fd) (f : Fd) : Bool := decide (sub f.rhs (clo l f.lhs))
end Go.Hx
end
section
namespace Go.Hx
open Go.Proofs
set_option maxRecDepth 100000
theorem axg : goodFn Tryz.prog 40 := ⟨Tryz.f40, Tryz.func40, by kernel_rfl, by kernel_rfl⟩
theorem atj (n : Int) (l : List Fd) : aj Tryz.prog 40 [pI n, pP (fdl l)] (aq [pI (ca n l)]) := by
 refine ag (nt := 42) af Tryz.func40 rfl rfl l9 ?_; refine a7 ?_
 refine ce 1 rfl fun hlen => ?_
 refine gy ?_; refine qy ?_; refine a6 ?_; refine a7 ?_; refine sx7 ?_; (iterate 3 refine qy ?_); refine bh rfl rfl (fun r0 => ?_) (fun r0 => ?_)
 ·
  have h0 := of_decide_eq_true r0
  try simp only [ty] at h0
  (iterate 2 refine k9 (gtf r0) ?_); refine rq rfl rfl rfl rfl rfl ?_ (hp := r0); refine a6 ?_; refine a8 _ rfl (fun _ => ?_) (fun e => by cases e); refine sx7 ?_; refine qy ?_; refine a6 ?_
  exact hx8 rfl rfl rfl (⟨cci (by rw [ca, if_pos (by omega)]), trivial⟩)
 ·
  have h0 := of_decide_eq_false r0
  try simp only [ty] at h0
  (iterate 2 refine qy ?_ (hg := (gff r0))); refine qy ?_; refine a6 ?_; refine a8 _ rfl (fun r1 => ?_) (fun r1 => ?_)
  ·
   have h1 := r1
   have h1 := bo r0 h1
   have h1 := of_decide_eq_true h1
   try simp only [ty] at h1
   refine sx7 ?_; refine qy ?_; refine a6 ?_
   exact hx8 rfl rfl rfl (⟨cci (by rw [ca, if_pos (by omega)]), trivial⟩)
  ·
   have h1 := r1
   have h1 := bo r0 h1
   have h1 := of_decide_eq_false h1
   try simp only [ty] at h1
   refine aa ?_; refine a7 ?_; refine sx7 ?_; (iterate 3 refine qy ?_); refine a6 ?_; refine a8 _ rfl (fun r2 => ?_) (fun r2 => ?_)
   ·
    have h2 := of_decide_eq_true r2
    try simp only [ty] at h2
    refine sx7 ?_; refine qy ?_; refine a6 ?_
    exact hx8 rfl rfl rfl (⟨cci (by rw [ca, if_neg (by omega), if_pos (by omega)]), trivial⟩)
   ·
    have h2 := of_decide_eq_false r2
    try simp only [ty] at h2
    refine aa ?_; refine sx7 ?_; refine qy ?_; refine rc rfl rfl rfl rfl rfl rfl yk (y9 n) (CoL.refl _) rfl rfl ?_; refine qy ?_; refine a6 ?_; refine a7 ?_; refine sx7 ?_; refine qy ?_; refine a6 ?_
    refine ae ?_
    refine ak (ι := Nat) ⟨[(1, some _), (5, some _)], []⟩ ⟨⟨c9, c9, trivial⟩, trivial⟩ (fun i => ⟨[(6, some (vI i))], []⟩) (fun i => i ≤ l.length ∧ ∀ j, j < i → inU n (l.getD j default) = true) (fun i => l.length - i) (0) (⟨Nat.zero_le _, fun j hj => absurd hj (Nat.not_lt_zero j)⟩) ⟨⟨zy, trivial⟩, trivial⟩ ?_
    rintro i ⟨hi, hI⟩
    refine a7 ?_; refine sx7 ?_; (iterate 4 refine qy ?_); refine a6 ?_; refine a8 _ rfl (fun r3 => ?_) (fun r3 => ?_)
    ·
     have h3 := of_decide_eq_true r3
     try simp only [ty] at h3
     refine aa ?_; refine a7 ?_; refine ae ?_; refine sx7 ?_; (iterate 6 refine qy ?_); refine rc rfl rfl rfl rfl rfl rfl yi (a3n _ _) (CoL.refl _) rfl rfl ?_; (iterate 2 refine qy ?_)
     refine bh rfl rfl (fun r4 => ?_) (fun r4 => ?_)
     ·
      have h4 := r4
      have h4 := az h4
      (iterate 8 refine k9 (gtf r4) ?_); refine rq rfl rfl rfl rfl rfl ?_ (hp := r4); refine a6 ?_; refine a8 _ rfl (fun _ => ?_) (fun e => by cases e); refine sx7 ?_; refine qy ?_; refine a6 ?_
      exact hx8 rfl rfl rfl (⟨cci (by rw [ca, if_neg (by omega), if_neg (by omega), if_neg (fun e => absurd (a2p (l := l) (p := inU n) (i := i) (by omega) (by rw [Bool.eq_false_iff]; intro e2; rw [o9 (by omega) (by omega)] at e2; simp_all)) (by rw [e]; decide))]), trivial⟩)
     ·
      have h4 := r4
      have h4 := b4 h4
      (iterate 6 refine qy ?_ (hg := (gff r4))); refine rc rfl rfl rfl rfl rfl rfl yi (a3n _ _) (CoL.refl _) rfl (gff r4) ?_; refine qy ?_ (hg := (gff r4)); refine qy ?_; refine a6 ?_
      refine a8 _ rfl (fun r5 => ?_) (fun r5 => ?_)
      ·
       have h5 := r5
       have h5 := bo r4 h5
       have h5 := az h5
       refine sx7 ?_; refine qy ?_; refine a6 ?_
       exact hx8 rfl rfl rfl (⟨cci (by rw [ca, if_neg (by omega), if_neg (by omega), if_neg (fun e => absurd (a2p (l := l) (p := inU n) (i := i) (by omega) (by rw [Bool.eq_false_iff]; intro e2; rw [o9 (by omega) (by omega)] at e2; simp_all)) (by rw [e]; decide))]), trivial⟩)
      ·
       have h5 := r5
       have h5 := bo r4 h5
       have h5 := b4 h5
       refine aa ?_; refine gy ?_; (iterate 3 refine qy ?_); refine a6 ?_; refine ⟨i + 1, ?_, ?_, ?_⟩
       · refine ⟨by omega, fun j hj => ?_⟩
         rcases Nat.lt_or_eq_of_le (Nat.le_of_lt_succ hj) with h | h
         · exact hI j h
         · subst h
           exact (o9 (by omega) (by omega)).2 (by simp_all)
       · first | omega | (dsimp only; omega)
       · exact ⟨⟨zy, c9, c9, trivial⟩, trivial⟩
    ·
     have h3 := of_decide_eq_false r3
     try simp only [ty] at h3
     obtain rfl : i = l.length := by omega
     refine am ?_; refine sx7 ?_; refine qy ?_; refine a6 ?_
     exact hx8 rfl rfl rfl (⟨cci (by rw [ca, if_neg (by omega), if_neg (by omega), if_pos (a7q fun j hj => hI j hj)]), trivial⟩)
theorem acr : goodFn Tryz.prog 226 := ⟨Tryz.f226, Tryz.func226, by kernel_rfl, by kernel_rfl⟩
theorem az6 (l : List Fd) (x : Fd) : aj Tryz.prog 226 [pP (fdl l), x.pc] (aq [pB (imp l x)]) := by
 refine ag (nt := 13) af Tryz.func226 rfl rfl l9 ?_; refine sx7 ?_; refine m9 0 ?_; refine qy ?_; refine a6 ?_; refine a7 ?_; refine ay (E := b6) af au [0, 1, 2, 3, 4, 5, 6, 7, 8] ?_
 (iterate 5 refine qy ?_); refine rc rfl rfl rfl rfl rfl rfl zz (a3k l x.lhs) (CoL.refl _) rfl rfl ?_; (iterate 3 refine qy ?_); refine a6 ?_; refine ⟨by kernel_rfl, ?_⟩
 exact hx8 rfl rfl rfl (⟨ccb (decide_eq_decide.2 lh), trivial⟩)
end Go.Hx
end
section
namespace Go.Hx
variable {α : Type}
theorem cr [Inhabited α] {l : List α} {q : Nat} (hq : q < l.length) : l.take (q + 1) = l.take q ++ [l.getD q default] := by
 rw [List.take_add_one, List.getElem?_eq_getElem hq]
 simp [List.getD, hq]
theorem afp [Inhabited α] {l : List α} {q : Nat} (h0 : 0 < q) (hq : q ≤ l.length) : (l.take q).getLast? = some (l.getD (q - 1) default) := by
 obtain ⟨k, rfl⟩ : ∃ k, q = k + 1 := ⟨q - 1, by omega⟩
 rw [cr (by omega), List.getLast?_append]
 simp
section
variable [DecidableEq α]
def gv : Option α → List α → List α
 | _, [] => []
 | p, x :: l => if p = some x then gv p l else x :: gv (some x) l
def fv (l : List α) : List α := gv none l
def up (p : Option α) (l : List α) : Option α := match l.getLast? with | some y => some y | none => p
theorem aby (p : Option α) (y : α) (l : List α) : up p (y :: l) = up (some y) l := by
 unfold up
 cases l with
 | nil => rfl
 | cons z l => simp [List.getLast?_cons]
theorem xd (x : α) : ∀ (l : List α) (p : Option α), gv p (l ++ [x]) = gv p l ++ (if up p l = some x then [] else [x])
 | [], p => by
  unfold up
  simp only [List.nil_append, gv, List.getLast?_nil]
  by_cases h : p = some x <;> simp [h]
 | y :: l, p => by
  rw [aby]
  simp only [List.cons_append, gv]
  split
  · rename_i h
    rw [xd x l p, h]
  · rw [xd x l (some y)]; rfl
theorem ko [Inhabited α] {l : List α} {q : Nat} (h0 : 0 < q) (hq : q < l.length) : fv (l.take (q + 1)) = fv (l.take q) ++ (if l.getD (q - 1) default = l.getD q default then [] else [l.getD q default]) := by
 unfold fv
 rw [cr hq, xd]
 unfold up
 rw [afp h0 (by omega)]
 simp
theorem nz [Inhabited α] {l : List α} : ∀ {k : Nat}, k ≤ l.length → (∀ j, 0 < j → j < k → ¬ l.getD j default = l.getD (j - 1) default) → fv (l.take k) = l.take k
 | 0, _, _ => rfl
 | 1, hk, _ => by
  rw [cr (by omega)]
  simp [fv, gv]
 | k + 2, hk, h => by
  rw [ko (by omega) (by omega), nz (by omega) (fun j h1 h2 => h j h1 (by omega)), if_neg (fun e => h (k + 1) (by omega) (by omega) e.symm), ← cr (by omega)]
theorem a1d : ∀ (l : List α) (p : Option α), ∀ x ∈ gv p l, x ∈ l
 | [], _, x, h => by simp [gv] at h
 | y :: l, p, x, h => by
  simp only [gv] at h
  split at h
  · exact List.mem_cons_of_mem _ (a1d l p x h)
  · rcases List.mem_cons.1 h with rfl | h
    · exact List.mem_cons_self
    · exact List.mem_cons_of_mem _ (a1d l _ x h)
theorem a1q : ∀ (l : List α) (p : Option α), ∀ x ∈ l, p = some x ∨ x ∈ gv p l
 | y :: l, p, x, h => by
  simp only [gv]
  split
  · rename_i hp
    rcases List.mem_cons.1 h with rfl | h
    · exact .inl hp
    · exact a1q l p x h
  · rcases List.mem_cons.1 h with rfl | h
    · exact .inr List.mem_cons_self
    · rcases a1q l (some y) x h with h | h
      · simp only [Option.some.injEq] at h
        subst h
        exact .inr List.mem_cons_self
      · exact .inr (List.mem_cons_of_mem _ h)
theorem ab5 {l : List α} {x : α} : x ∈ fv l ↔ x ∈ l := ⟨a1d l none x, fun h => by
 rcases a1q l none x h with h | h
 · cases h
 · exact h⟩
end
section
variable [Inhabited α]
theorem li {l : List α} {p : Nat} {v : α} (hp : p < l.length) : (l.set p v).getD p default = v := by simp [List.getD, hp]
theorem getD_set_ne' {l : List α} {p j : Nat} {v : α} (h : j ≠ p) : (l.set p v).getD j default = l.getD j default := by
 simp only [List.getD, List.getElem?_set_ne (Ne.symm h)]
theorem acw {wr wr' : Bool} {n p k : Nat} {e : TypeId} {c : α → Nat → PV} {l : List α} {v : α} {x : PV} (hw : wr' = true → wr = true) (hn : n = l.length) (hp : k = p) (hk : p < l.length) (hx : x = c v 0) :
 CoO (.arr wr 1 e n (ez (lf c l) k 0 [x])) (.arr wr' 1 e n (lf c (l.set p v))) := by
 subst hp hx hn
 refine ⟨hw, rfl, rfl, rfl, fun i j hi hj => CoP.of_eq ?_⟩
 obtain rfl : j = 0 := by omega
 unfold ez lf
 by_cases h : i = k
 · subst h
   rw [if_pos ⟨rfl, by omega, by simp⟩, li hk]
   rfl
 · rw [if_neg (by omega), getD_set_ne' h]
theorem mi {wr wr' : Bool} {n p k q d : Nat} {e : TypeId} {c : α → Nat → PV} {l l' : List α} (hw : wr' = true → wr = true) (hn : n = l.length) (hp : k = p) (hk : p < l.length) (hd : d = q) :
 CoO (.arr wr 1 e n (ez (lf c l) k 0 [lf c l' d 0])) (.arr wr' 1 e n (lf c (l.set p (l'.getD q default)))) := acw hw hn hp hk (by rw [hd]; rfl)
theorem a4q {n m a : Nat} {cl : Bool} {c : α → Nat → PV} {l l' : List α} {z : List Value} {p : Option Int} {h : Option Int} (hn : dq (bd n h) p = l'.length) (hp : p = none) (ha : l'.length ≤ a) (hl : l' = l.take l'.length) :
 CoP (.sl (dq (bd n h) p) 1 cl (lw (jv (lf c l) a m z) p)) (psl 1 c l') := by
 subst hp
 refine CoP.sl hn.symm (.inl rfl) (fun h => by cases h) fun i j hi hj => CoP.of_eq ?_
 rw [hn] at hi
 show jv (lf c l) a m z i j = lf c l' i j
 unfold jv
 rw [if_neg (by omega)]
 simp only [lf, List.getD]
 have e : l'[i]? = l[i]? := by rw [hl, List.getElem?_take, if_pos hi]
 rw [e]
end
abbrev sC : AS → Nat → PV := fun s _ => asC s
structure CpI (l : List AS) (k p q : Nat) (m : List AS) : Prop where
 len : m.length = l.length
 kq : k < q
 pq : p < q
 ql : q ≤ l.length
 pre : m.take p = fv (l.take q)
 high : ∀ j, q - 1 ≤ j → m.getD j default = l.getD j default
theorem CpI.start {l : List AS} {k : Nat} (h1 : 1 ≤ k) (hk : k < l.length) (h : ∀ j, 0 < j → j < k → ¬ l.getD j default = l.getD (j - 1) default) (hd : l.getD k default = l.getD (k - 1) default) : CpI l k k (k + 1) l :=
 ⟨rfl, by omega, by omega, by omega, by rw [ko (by omega) hk, if_pos hd.symm, List.append_nil, nz (by omega) h], fun _ _ => rfl⟩
theorem CpI.skip {l : List AS} {k p q : Nat} {m : List AS} (h : CpI l k p q m) (hq : q < l.length) (he : m.getD q default = m.getD (q - 1) default) : CpI l k p (q + 1) m := by
 have hk := h.kq
 refine ⟨h.len, by omega, by have := h.pq; omega, hq, ?_, fun j hj => h.high j (by omega)⟩
 rw [h.high q (by omega), h.high (q - 1) (by omega)] at he
 rw [ko (by omega) hq, if_pos he.symm, List.append_nil, h.pre]
theorem CpI.keep {l : List AS} {k p q : Nat} {m : List AS} (h : CpI l k p q m) (hq : q < l.length) (he : ¬ m.getD q default = m.getD (q - 1) default) : CpI l k (p + 1) (q + 1) (m.set p (m.getD q default)) := by
 have hk := h.kq
 have hp := h.pq
 have hl := h.len
 refine ⟨by simp [hl], by omega, by omega, hq, ?_, fun j hj => by rw [getD_set_ne' (by omega)]; exact h.high j (by omega)⟩
 have e := h.high q (by omega)
 rw [e, h.high (q - 1) (by omega)] at he
 rw [ko (by omega) hq, if_neg (fun e => he e.symm), ← h.pre, cr (by simp [hl]; omega), li (by omega), e]
 congr 1
 rw [List.take_set, List.set_eq_of_length_le (by simp; omega)]
theorem qh {l : List AS} {a b a' b' : Nat} (h : asI (l.getD a' default) = asI (l.getD b' default)) (ha : a' = a) (hb : b' = b) : l.getD a default = l.getD b default := by subst ha hb; exact d6.1 h
theorem qg {l : List AS} {a b a' b' : Nat} (h : ¬ asI (l.getD a' default) = asI (l.getD b' default)) (ha : a' = a) (hb : b' = b) : ¬ l.getD a default = l.getD b default := by subst ha hb; exact fun e => h (congrArg asI e)
theorem acu {l : List AS} {k : Nat} (hk : l.length ≤ k) (h : ∀ j, 0 < j → j < k → ¬ l.getD j default = l.getD (j - 1) default) : CoP (.sl l.length 1 false (lf sC l)) (asl (fv l)) := by
 have := nz (Nat.le_refl l.length) fun j h1 h2 => h j h1 (by omega)
 rw [List.take_length] at this
 rw [this]
 exact CoP.refl _
theorem asa {l m : List AS} {k p q n a d : Nat} {cl : Bool} {z : List Value} (hC : CpI l k p q m) (hq : ¬ q < l.length) (ha : p ≤ a) : CoP (.sl (dq (bd n (some (p : Int))) none) 1 cl (lw (jv (lf sC m) a d z) none)) (asl (fv l)) := by
 have e := hC.pre
 have h1 := hC.ql
 have h2 := hC.len
 have h3 := hC.pq
 rw [show q = l.length by omega, List.take_length] at e
 have el : (fv l).length = p := by rw [← e]; simp; omega
 exact a4q (by rw [el]; rfl) rfl (by omega) (by rw [el, e])
end Go.Hx
end
