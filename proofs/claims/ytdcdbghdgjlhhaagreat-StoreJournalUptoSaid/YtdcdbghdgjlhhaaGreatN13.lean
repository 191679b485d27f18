/- A part of the proof: lemmas for the theorem of this claim, merged by a program of ours out of Ty1, Sp1, W1, Sp2. -/
import Derived.Test.YtdcdbghdgjlhhaaGreatN12
set_option linter.all false
section
namespace Go.Hx
abbrev pI (a : Int) : PC := .one (.raw (.int .i64 a))
abbrev pU (a : Int) : PC := .one (.raw (.int .u8 a))
abbrev pB (b : Bool) : PC := .one (.raw (.bool b))
abbrev pS (s : ByteArray) : PC := .one (.raw (.string s))
abbrev pP (x : PV) : PC := .one x
abbrev vI (a : Int) : HR := oneP (.raw (.int .i64 a))
abbrev vU (a : Int) : HR := oneP (.raw (.int .u8 a))
abbrev vB (b : Bool) : HR := oneP (.raw (.bool b))
abbrev vS (s : ByteArray) : HR := oneP (.raw (.string s))
abbrev vP (x : PV) : HR := oneP x
abbrev Lim : Nat := 68719476736
structure Val where
  kind : Int
  num : Int
  str : ByteArray
instance : Inhabited Val := ⟨⟨0, 0, ⟨#[]⟩⟩⟩
theorem Val.eq_iff {a b : Val} : a = b ↔ a.kind = b.kind ∧ a.num = b.num ∧ a.str = b.str := by cases a; cases b; simp
instance : DecidableEq Val := fun a b => decidable_of_iff _ (Val.eq_iff (a := a) (b := b)).symm
def Val.c (v : Val) : Nat → PV
  | 0 => .raw (.int .i64 v.kind)
  | 1 => .raw (.int .i64 v.num)
  | 2 => .raw (.string v.str)
  | _ => .any
abbrev vals (l : List Val) : PV := psl 3 Val.c l
abbrev Val.pc (v : Val) : PC := .agg [v.c 0, v.c 1, v.c 2]
structure Row where
  id : Int
  vals : List Val
instance : Inhabited Row := ⟨⟨0, []⟩⟩
theorem Row.eq_iff {a b : Row} : a = b ↔ a.id = b.id ∧ a.vals = b.vals := by cases a; cases b; simp
instance : DecidableEq Row := fun a b => decidable_of_iff _ (Row.eq_iff (a := a) (b := b)).symm
def Row.c (r : Row) : Nat → PV
  | 0 => .raw (.int .i64 r.id)
  | 1 => Hx.vals r.vals
  | _ => .any
abbrev rows (l : List Row) : PV := psl 2 Row.c l
abbrev Row.pc (r : Row) : PC := .agg [r.c 0, r.c 1]
def strC (s : ByteArray) : Nat → PV
  | 0 => .raw (.string s)
  | _ => .any
instance : Inhabited ByteArray := ⟨⟨#[]⟩⟩
abbrev strs (l : List ByteArray) : PV := psl 1 strC l
def u8C (s : UInt8) : Nat → PV
  | 0 => .raw (.int .u8 (s.toNat : Int))
  | _ => .any
abbrev u8s (l : List UInt8) : PV := psl 1 u8C l
def u8sC (l : List UInt8) : Nat → PV
  | 0 => u8s l
  | _ => .any
abbrev u8ss (l : List (List UInt8)) : PV := psl 1 u8sC l
structure Tbl where
  name : ByteArray
  attrs : List ByteArray
  rows : List Row
instance : Inhabited Tbl := ⟨⟨⟨#[]⟩, [], []⟩⟩
theorem Tbl.eq_iff {a b : Tbl} : a = b ↔ a.name = b.name ∧ a.attrs = b.attrs ∧ a.rows = b.rows := by cases a; cases b; simp
instance : DecidableEq Tbl := fun a b => decidable_of_iff _ (Tbl.eq_iff (a := a) (b := b)).symm
def Tbl.c (t : Tbl) : Nat → PV
  | 0 => .raw (.string t.name)
  | 1 => strs t.attrs
  | 2 => Hx.rows t.rows
  | _ => .any
abbrev tbls (l : List Tbl) : PV := psl 3 Tbl.c l
abbrev Tbl.pc (t : Tbl) : PC := .agg [t.c 0, t.c 1, t.c 2]
abbrev DB := List Tbl
abbrev dbpc (d : DB) : PC := .agg [tbls d]
structure Chg where
  kind : Int
  name : ByteArray
  table : Tbl
  row : Row
  attr : Int
  value : Val
instance : Inhabited Chg := ⟨⟨0, ⟨#[]⟩, default, default, 0, default⟩⟩
theorem Chg.eq_iff {a b : Chg} : a = b ↔ a.kind = b.kind ∧ a.name = b.name ∧ a.table = b.table ∧ a.row = b.row ∧ a.attr = b.attr ∧ a.value = b.value := by cases a; cases b; simp
instance : DecidableEq Chg := fun a b => decidable_of_iff _ (Chg.eq_iff (a := a) (b := b)).symm
def Chg.c (x : Chg) : Nat → PV
  | 0 => .raw (.int .i64 x.kind)
  | 1 => .raw (.string x.name)
  | 2 => x.table.c 0
  | 3 => x.table.c 1
  | 4 => x.table.c 2
  | 5 => x.row.c 0
  | 6 => x.row.c 1
  | 7 => .raw (.int .i64 x.attr)
  | 8 => x.value.c 0
  | 9 => x.value.c 1
  | 10 => x.value.c 2
  | _ => .any
abbrev chgs (l : List Chg) : PV := psl 11 Chg.c l
abbrev Chg.pc (x : Chg) : PC := .agg [x.c 0, x.c 1, x.c 2, x.c 3, x.c 4, x.c 5, x.c 6, x.c 7, x.c 8, x.c 9, x.c 10]
def txC (l : List Chg) : Nat → PV
  | 0 => chgs l
  | _ => .any
abbrev txs (l : List (List Chg)) : PV := psl 1 txC l
structure Rcp where
  attrs : UInt8
  gap : UInt8
  rows : List (List UInt8)
instance : Inhabited Rcp := ⟨⟨0, 0, []⟩⟩
def Rcp.c (x : Rcp) : Nat → PV
  | 0 => .raw (.int .u8 (x.attrs.toNat : Int))
  | 1 => .raw (.int .u8 (x.gap.toNat : Int))
  | 2 => u8ss x.rows
  | _ => .any
abbrev Rcp.pc (x : Rcp) : PC := .agg [x.c 0, x.c 1, x.c 2]
structure Opn where
  kind : UInt8
  name : UInt8
  t : Rcp
  id : Int
  vals : List UInt8
  attr : Int
  value : UInt8
instance : Inhabited Opn := ⟨⟨0, 0, default, 0, [], 0, 0⟩⟩
def Opn.c (x : Opn) : Nat → PV
  | 0 => .raw (.int .u8 (x.kind.toNat : Int))
  | 1 => .raw (.int .u8 (x.name.toNat : Int))
  | 2 => x.t.c 0
  | 3 => x.t.c 1
  | 4 => x.t.c 2
  | 5 => .raw (.int .i64 x.id)
  | 6 => u8s x.vals
  | 7 => .raw (.int .i64 x.attr)
  | 8 => .raw (.int .u8 (x.value.toNat : Int))
  | _ => .any
abbrev Opn.pc (x : Opn) : PC := .agg [x.c 0, x.c 1, x.c 2, x.c 3, x.c 4, x.c 5, x.c 6, x.c 7, x.c 8]
abbrev opns (l : List Opn) : PV := psl 9 Opn.c l
structure Stt where
  done : List (List Chg)
  undone : List (List Chg)
  opn : Bool
  now : List Chg
instance : Inhabited Stt := ⟨⟨[], [], false, []⟩⟩
def Stt.c (x : Stt) : Nat → PV
  | 0 => txs x.done
  | 1 => txs x.undone
  | 2 => .raw (.bool x.opn)
  | 3 => chgs x.now
  | _ => .any
abbrev Stt.pc (x : Stt) : PC := .agg [x.c 0, x.c 1, x.c 2, x.c 3]
theorem getD_lt {α : Type} [Inhabited α] (l : List α) (i : Nat) (h : i < l.length) : l.getD i default = l[i] := by simp [List.getD, List.getElem?_eq_getElem h]
end Go.Hx
end
section
namespace Go.Hx
def sgn (a b : Int) : Int := if a < b then -1 else if b < a then 1 else 0
def bAt (s : ByteArray) (i : Nat) : Int := byteAt s i
def cmpL : List UInt8 → List UInt8 → Int
  | [], [] => 0
  | [], _ :: _ => -1
  | _ :: _, [] => 1
  | x :: xs, y :: ys => if x = y then cmpL xs ys else sgn x.toNat y.toNat
abbrev bl (s : ByteArray) : List UInt8 := s.data.toList
def cmpS (a b : ByteArray) : Int := cmpL (bl a) (bl b)
theorem bl_len (s : ByteArray) : (bl s).length = s.size := Array.length_toList
theorem cmpL_step : ∀ (i : Nat) (a b : List UInt8), i < a.length → i < b.length → a.getD i 0 = b.getD i 0 → cmpL (a.drop i) (b.drop i) = cmpL (a.drop (i + 1)) (b.drop (i + 1))
  | 0, x :: xs, y :: ys, _, _, h => by
    simp only [List.getD_cons_zero] at h
    simp [cmpL, h]
  | i + 1, x :: xs, y :: ys, h1, h2, h => by
    simp only [List.getD_cons_succ] at h
    simpa using cmpL_step i xs ys (by simpa using h1) (by simpa using h2) h
  | _, [], _, h1, _, _ => by simp at h1
  | _, _ :: _, [], _, h2, _ => by simp at h2
theorem cmpL_diff : ∀ (i : Nat) (a b : List UInt8), i < a.length → i < b.length → a.getD i 0 ≠ b.getD i 0 → cmpL (a.drop i) (b.drop i) = sgn (a.getD i 0).toNat (b.getD i 0).toNat
  | 0, x :: xs, y :: ys, _, _, h => by
    simp only [List.getD_cons_zero] at h
    simp [cmpL, h]
  | i + 1, x :: xs, y :: ys, h1, h2, h => by
    simp only [List.getD_cons_succ] at h ⊢
    simpa using cmpL_diff i xs ys (by simpa using h1) (by simpa using h2) h
  | _, [], _, h1, _, _ => by simp at h1
  | _, _ :: _, [], _, h2, _ => by simp at h2
theorem cmpL_end : ∀ (i : Nat) (a b : List UInt8), i ≤ a.length → i ≤ b.length → (i = a.length ∨ i = b.length) → cmpL (a.drop i) (b.drop i) = sgn a.length b.length
  | 0, [], [], _, _, _ => by simp [cmpL, sgn]
  | 0, [], _ :: _, _, _, _ => by simp [cmpL, sgn] <;> omega
  | 0, _ :: _, [], _, _, _ => by simp [cmpL, sgn] <;> omega
  | 0, _ :: _, _ :: _, _, _, h => by simp at h
  | i + 1, x :: xs, y :: ys, h1, h2, h => by
    have := cmpL_end i xs ys (by simpa using h1) (by simpa using h2) (by simpa using h)
    simp only [List.drop_succ_cons, this, List.length_cons, sgn]
    repeat' split
    all_goals first | rfl | omega
  | i + 1, [], _, h1, _, _ => by simp at h1
  | i + 1, _ :: _, [], _, h2, _ => by simp at h2
theorem cmpL_zero : ∀ {a b : List UInt8}, cmpL a b = 0 ↔ a = b
  | [], [] => by simp [cmpL]
  | [], _ :: _ => by simp [cmpL]
  | _ :: _, [] => by simp [cmpL]
  | x :: xs, y :: ys => by
    simp only [cmpL]
    by_cases h : x = y
    · simp [h, cmpL_zero]
    · have : ¬ x.toNat = y.toNat := fun e => h (UInt8.toNat_inj.1 e)
      simp only [h, if_false, sgn, List.cons.injEq, false_and, iff_false]
      repeat' split
      all_goals omega
theorem byteAt_inj (a b : ByteArray) (i j : Nat) : byteAt a i = byteAt b j ↔ (bl a).getD i 0 = (bl b).getD j 0 := by
  unfold byteAt
  rw [Int.natCast_inj, UInt8.toNat_inj]
theorem cmpS_zero {a b : ByteArray} : cmpS a b = 0 ↔ a = b := by
  unfold cmpS
  rw [cmpL_zero]
  exact ⟨fun h => ByteArray.ext (Array.ext' h), fun h => by rw [h]⟩
def cmpV (a b : Val) : Int :=
  if sgn a.kind b.kind ≠ 0 then sgn a.kind b.kind else if sgn a.num b.num ≠ 0 then sgn a.num b.num else cmpS a.str b.str
theorem sgn_zero {a b : Int} : sgn a b = 0 ↔ a = b := by
  unfold sgn
  repeat' split
  all_goals omega
theorem cmpV_zero {a b : Val} : cmpV a b = 0 ↔ a = b := by
  unfold cmpV
  cases a; cases b
  simp only [Val.mk.injEq]
  split
  · rename_i h; rw [Ne, sgn_zero] at h
    constructor
    · intro e; rw [sgn_zero] at e; exact absurd e h
    · rintro ⟨e, _⟩; exact absurd e h
  · rename_i h; rw [Ne, sgn_zero, Classical.not_not] at h
    split
    · rename_i h2; rw [Ne, sgn_zero] at h2
      constructor
      · intro e; rw [sgn_zero] at e; exact absurd e h2
      · rintro ⟨_, e, _⟩; exact absurd e h2
    · rename_i h2; rw [Ne, sgn_zero, Classical.not_not] at h2
      rw [cmpS_zero]
      exact ⟨fun e => ⟨h, h2, e⟩, fun e => e.2.2⟩
def cmpVL : List Val → List Val → Int
  | [], [] => 0
  | [], _ :: _ => -1
  | _ :: _, [] => 1
  | x :: xs, y :: ys => if cmpV x y ≠ 0 then cmpV x y else cmpVL xs ys
theorem cmpVL_step : ∀ (i : Nat) (a b : List Val), i < a.length → i < b.length → cmpV (a.getD i default) (b.getD i default) = 0 → cmpVL (a.drop i) (b.drop i) = cmpVL (a.drop (i + 1)) (b.drop (i + 1))
  | 0, x :: xs, y :: ys, _, _, h => by
    simp only [List.getD_cons_zero] at h
    simp [cmpVL, h]
  | i + 1, x :: xs, y :: ys, h1, h2, h => by
    simp only [List.getD_cons_succ] at h
    simpa using cmpVL_step i xs ys (by simpa using h1) (by simpa using h2) h
  | _, [], _, h1, _, _ => by simp at h1
  | _, _ :: _, [], _, h2, _ => by simp at h2
theorem cmpVL_diff : ∀ (i : Nat) (a b : List Val), i < a.length → i < b.length → cmpV (a.getD i default) (b.getD i default) ≠ 0 → cmpVL (a.drop i) (b.drop i) = cmpV (a.getD i default) (b.getD i default)
  | 0, x :: xs, y :: ys, _, _, h => by
    simp only [List.getD_cons_zero] at h
    simp [cmpVL, h]
  | i + 1, x :: xs, y :: ys, h1, h2, h => by
    simp only [List.getD_cons_succ] at h ⊢
    simpa using cmpVL_diff i xs ys (by simpa using h1) (by simpa using h2) h
  | _, [], _, h1, _, _ => by simp at h1
  | _, _ :: _, [], _, h2, _ => by simp at h2
theorem cmpVL_end : ∀ (i : Nat) (a b : List Val), i ≤ a.length → i ≤ b.length → (i = a.length ∨ i = b.length) → cmpVL (a.drop i) (b.drop i) = sgn a.length b.length
  | 0, [], [], _, _, _ => by simp [cmpVL, sgn]
  | 0, [], _ :: _, _, _, _ => by simp [cmpVL, sgn] <;> omega
  | 0, _ :: _, [], _, _, _ => by simp [cmpVL, sgn] <;> omega
  | 0, _ :: _, _ :: _, _, _, h => by simp at h
  | i + 1, x :: xs, y :: ys, h1, h2, h => by
    have := cmpVL_end i xs ys (by simpa using h1) (by simpa using h2) (by simpa using h)
    simp only [List.drop_succ_cons, this, List.length_cons, sgn]
    repeat' split
    all_goals first | rfl | omega
  | i + 1, [], _, h1, _, _ => by simp at h1
  | i + 1, _ :: _, [], _, h2, _ => by simp at h2
theorem cmpVL_zero : ∀ {a b : List Val}, cmpVL a b = 0 ↔ a = b
  | [], [] => by simp [cmpVL]
  | [], _ :: _ => by simp [cmpVL]
  | _ :: _, [] => by simp [cmpVL]
  | x :: xs, y :: ys => by
    simp only [cmpVL]
    split
    · rename_i h
      refine ⟨fun e => absurd e h, fun e => ?_⟩
      simp only [List.cons.injEq] at e
      exact absurd (cmpV_zero.2 e.1) h
    · rename_i h
      rw [Ne, Classical.not_not, cmpV_zero] at h
      simp [h, cmpVL_zero]
end Go.Hx
end
section
namespace Go.Hx
open Go.Proofs
set_option maxRecDepth 100000
theorem good112 : goodFn Tryz.prog 112 := ⟨Tryz.f112, Tryz.func112, by kernel_rfl, by kernel_rfl⟩
theorem c112 (a b : Int) : HPure Tryz.prog 112 [pI a, pI b] (prOf [pI (sgn a b)]) := by
  refine hpure_of (nt := 11) Tryzok Tryz.func112 rfl rfl (Nat.le_of_ble_eq_true rfl) ?_; refine hw_seq ?_; refine hw_region (E := TryzE) Tryzok ?_; refine rq rfl rfl rfl rfl rfl ?_; refine rg_nil ?_; show HW _ _ _ _ _
  (iterate 2 refine hw_seq ?_); refine hw_region (E := TryzE) Tryzok ?_; (iterate 3 refine rq rfl rfl rfl rfl rfl ?_); refine rg_nil ?_; show HW _ _ _ _ _; refine hw_cond _ rfl (fun r0 => ?_) (fun r0 => ?_)
  · skip
    have h0 := r0
    have h0 := of_decide_eq_true h0
    try simp only [Int.toNat_natCast] at h0
    refine hw_seq ?_; refine hw_region (E := TryzE) Tryzok ?_; refine rq rfl rfl rfl rfl rfl ?_; refine rg_nil ?_; show HW _ _ _ _ _; refine hw_ret ?_; refine ⟨.inr rfl, ?_⟩
    exact ⟨_, _, _, _, rfl, (by (repeat' apply And.intro) <;> first | trivial | exact Nat.le_of_ble_eq_true rfl | rfl), rfl, (by (repeat' apply And.intro) <;> first | trivial | exact Nat.le_of_ble_eq_true rfl | rfl), ⟨cci (by unfold sgn; rw [if_pos h0]), trivial⟩⟩
  · skip
    have h0 := r0
    have h0 := of_decide_eq_false h0
    try simp only [Int.toNat_natCast] at h0
    refine hw_skip ?_; show HW _ _ _ _ _; (iterate 2 refine hw_seq ?_); refine hw_region (E := TryzE) Tryzok ?_; (iterate 3 refine rq rfl rfl rfl rfl rfl ?_); refine rg_nil ?_; show HW _ _ _ _ _
    refine hw_cond _ rfl (fun r1 => ?_) (fun r1 => ?_)
    · skip
      have h1 := r1
      have h1 := of_decide_eq_true h1
      try simp only [Int.toNat_natCast] at h1
      refine hw_seq ?_; refine hw_region (E := TryzE) Tryzok ?_; refine rq rfl rfl rfl rfl rfl ?_; refine rg_nil ?_; show HW _ _ _ _ _; refine hw_ret ?_; refine ⟨.inr rfl, ?_⟩
      exact ⟨_, _, _, _, rfl, (by (repeat' apply And.intro) <;> first | trivial | exact Nat.le_of_ble_eq_true rfl | rfl), rfl, (by (repeat' apply And.intro) <;> first | trivial | exact Nat.le_of_ble_eq_true rfl | rfl), ⟨cci (by unfold sgn; rw [if_neg h0, if_pos h1]), trivial⟩⟩
    · skip
      have h1 := r1
      have h1 := of_decide_eq_false h1
      try simp only [Int.toNat_natCast] at h1
      refine hw_skip ?_; show HW _ _ _ _ _; refine hw_seq ?_; refine hw_region (E := TryzE) Tryzok ?_; refine rq rfl rfl rfl rfl rfl ?_; refine rg_nil ?_; show HW _ _ _ _ _; refine hw_ret ?_; refine ⟨.inr rfl, ?_⟩
      exact ⟨_, _, _, _, rfl, (by (repeat' apply And.intro) <;> first | trivial | exact Nat.le_of_ble_eq_true rfl | rfl), rfl, (by (repeat' apply And.intro) <;> first | trivial | exact Nat.le_of_ble_eq_true rfl | rfl), ⟨cci (by unfold sgn; rw [if_neg h0, if_neg h1]), trivial⟩⟩
theorem good118 : goodFn Tryz.prog 118 := ⟨Tryz.f118, Tryz.func118, by kernel_rfl, by kernel_rfl⟩
theorem c118 (a b : ByteArray) (ha : a.size ≤ 68719476736) (hb : b.size ≤ 68719476736) : HPure Tryz.prog 118 [pS a, pS b] (prOf [pI (cmpS a b)]) := by
  refine hpure_of (nt := 39) Tryzok Tryz.func118 rfl rfl (Nat.le_of_ble_eq_true rfl) ?_; refine hw_seq ?_; refine hw_region (E := TryzE) Tryzok ?_; refine rq rfl rfl rfl rfl rfl ?_; refine rg_nil ?_; show HW _ _ _ _ _
  refine hw_joinK (ι := Unit) ⟨[(0, some _), (1, some _)], []⟩ ⟨⟨⟨_, rfl, CoR.refl _⟩, ⟨_, rfl, CoR.refl _⟩, trivial⟩, trivial⟩ (fun _i => ⟨[], []⟩) (fun _i => cmpS a b = sgn a.size b.size) ?_ ?_
  · skip
    refine hw_seq ?_; refine hw_region (E := TryzE) Tryzok ?_; refine rq rfl rfl rfl rfl rfl ?_; refine rg_nil ?_; show HW _ _ _ _ _; refine hw_block ?_
    refine hw_loopK (ι := Nat) ⟨[(0, some _), (1, some _)], []⟩ ⟨⟨⟨_, rfl, CoR.refl _⟩, ⟨_, rfl, CoR.refl _⟩, trivial⟩, trivial⟩ (fun i => ⟨[(5, some (vI i))], []⟩) (fun i => i ≤ a.size ∧ i ≤ b.size ∧ cmpL ((bl a).drop i) ((bl b).drop i) = cmpS a b) (fun i => a.size - i) (0) (⟨Nat.zero_le _, Nat.zero_le _, rfl⟩) ⟨⟨⟨_, rfl, (by first | exact CoR.refl _ | exact coi (by omega) | exact cob (by simp_all))⟩, trivial⟩, trivial⟩ ?_
    rintro i ⟨hi1, hi2, hc⟩
    (iterate 2 refine hw_seq ?_); refine hw_region (E := TryzE) Tryzok ?_; (iterate 5 refine rq rfl rfl rfl rfl rfl ?_); refine rsplit rfl rfl (fun r0 => ?_) (fun r0 => ?_)
    · skip
      have h0 := r0
      have h0 := of_decide_eq_true h0
      try simp only [Int.toNat_natCast] at h0
      (iterate 4 refine rq rfl rfl rfl rfl (gtt r0) ?_); refine rq rfl rfl rfl rfl rfl ?_; refine rg_nil ?_; show HW _ _ _ _ _; refine hw_cond _ rfl (fun r1 => ?_) (fun r1 => ?_)
      · skip
        have h1 := r1
        have h1 := bif_t r0 h1
        have h1 := of_decide_eq_true h1
        try simp only [Int.toNat_natCast] at h1
        refine hw_skip ?_; show HW _ _ _ _ _; refine hw_seq ?_; refine hw_block ?_; refine hw_seq ?_; refine hw_draw (E := TryzE) Tryzok Tryzmixed [0, 1, 2, 3, 4, 5, 6] ?_; (iterate 7 refine rq rfl rfl rfl rfl rfl ?_)
        refine rg_nil ?_; refine ⟨by kernel_rfl, ?_⟩; show HW _ _ _ _ _; refine hw_cond _ rfl (fun r2 => ?_) (fun r2 => ?_)
        · skip
          have h2 := r2
          have h2 := of_decide_eq_false (not_t h2)
          try simp only [Int.toNat_natCast] at h2
          refine hw_seq ?_; refine hw_draw (E := TryzE) Tryzok Tryzmixed [0, 1, 2, 3, 4, 5, 6, 7, 8, 9] ?_; (iterate 8 refine rq rfl rfl rfl rfl rfl ?_); refine rc rfl rfl rfl rfl rfl rfl good112 (c112 _ _) (CoL.refl _) rfl rfl ?_
          refine rq rfl rfl rfl rfl rfl ?_; refine rg_nil ?_; refine ⟨by kernel_rfl, ?_⟩; show HW _ _ _ _ _; refine hw_ret ?_; refine ⟨.inr rfl, ?_⟩
          exact ⟨_, _, _, _, rfl, (by (repeat' apply And.intro) <;> first | trivial | exact Nat.le_of_ble_eq_true rfl | rfl), rfl, (by (repeat' apply And.intro) <;> first | trivial | exact Nat.le_of_ble_eq_true rfl | rfl), ⟨cci (by rw [← hc, cmpL_diff i _ _ (by rw [bl_len]; omega) (by rw [bl_len]; omega) (fun e => h2 ((byteAt_inj _ _ _ _).2 e))]; rfl), trivial⟩⟩
        · skip
          have h2 := r2
          have h2 := of_decide_eq_true (not_f h2)
          try simp only [Int.toNat_natCast] at h2
          refine hw_skip ?_; show HW _ _ _ _ _; refine hw_region (E := TryzE) Tryzok ?_; (iterate 3 refine rq rfl rfl rfl rfl rfl ?_); refine rg_nil ?_; refine ⟨i + 1, ?_, ?_, ?_⟩
          · exact ⟨by omega, by omega, by rw [← hc]; exact (cmpL_step i _ _ (by rw [bl_len]; omega) (by rw [bl_len]; omega) ((byteAt_inj _ _ _ _).1 h2)).symm⟩
          · first | omega | (dsimp only; omega)
          · exact ⟨⟨⟨_, rfl, (by first | exact CoR.refl _ | exact coi (by omega) | exact cob (by simp_all))⟩, ⟨_, rfl, CoR.refl _⟩, ⟨_, rfl, CoR.refl _⟩, trivial⟩, trivial⟩
      · skip
        have h1 := r1
        have h1 := bif_t r0 h1
        have h1 := of_decide_eq_false h1
        try simp only [Int.toNat_natCast] at h1
        refine hw_exit ?_; refine ⟨(), ?_, ?_⟩
        · rw [← hc, ← bl_len, ← bl_len]; exact cmpL_end i _ _ (by rw [bl_len]; omega) (by rw [bl_len]; omega) (by rw [bl_len, bl_len]; omega)
        · exact ⟨⟨⟨_, rfl, CoR.refl _⟩, ⟨_, rfl, CoR.refl _⟩, trivial⟩, trivial⟩
    · skip
      have h0 := r0
      have h0 := of_decide_eq_false h0
      try simp only [Int.toNat_natCast] at h0
      (iterate 4 refine rk rfl rfl rfl (gft r0) ?_); refine rq rfl rfl rfl rfl rfl ?_ (hp := r0); refine rg_nil ?_; show HW _ _ _ _ _; refine hw_cond _ rfl (fun e => by cases e) (fun _ => ?_); refine hw_exit ?_; refine ⟨(), ?_, ?_⟩
      · rw [← hc, ← bl_len, ← bl_len]; exact cmpL_end i _ _ (by rw [bl_len]; omega) (by rw [bl_len]; omega) (by rw [bl_len, bl_len]; omega)
      · exact ⟨⟨⟨_, rfl, CoR.refl _⟩, ⟨_, rfl, CoR.refl _⟩, trivial⟩, trivial⟩
  · rintro _ hj
    refine hw_seq ?_; refine hw_region (E := TryzE) Tryzok ?_; (iterate 4 refine rq rfl rfl rfl rfl rfl ?_); refine rc rfl rfl rfl rfl rfl rfl good112 (c112 _ _) (CoL.refl _) rfl rfl ?_; refine rq rfl rfl rfl rfl rfl ?_
    refine rg_nil ?_; show HW _ _ _ _ _; refine hw_ret ?_; refine ⟨.inr rfl, ?_⟩
    exact ⟨_, _, _, _, rfl, (by (repeat' apply And.intro) <;> first | trivial | exact Nat.le_of_ble_eq_true rfl | rfl), rfl, (by (repeat' apply And.intro) <;> first | trivial | exact Nat.le_of_ble_eq_true rfl | rfl), ⟨cci hj.symm, trivial⟩⟩
theorem good111 : goodFn Tryz.prog 111 := ⟨Tryz.f111, Tryz.func111, by kernel_rfl, by kernel_rfl⟩
theorem c111 (a b : Val) (ha : a.str.size ≤ 68719476736) (hb : b.str.size ≤ 68719476736) : HPure Tryz.prog 111 [a.pc, b.pc] (prOf [pI (cmpV a b)]) := by
  refine hpure_of (nt := 28) Tryzok Tryz.func111 rfl rfl (Nat.le_of_ble_eq_true rfl) ?_; refine hw_seq ?_; refine hw_region (E := TryzE) Tryzok ?_; refine rm 0 rfl rfl rfl rfl rfl rfl ?_; refine rm 1 rfl rfl rfl rfl rfl rfl ?_
  refine rq rfl rfl rfl rfl rfl ?_; refine rg_nil ?_; show HW _ _ _ _ _; (iterate 2 refine hw_seq ?_); refine hw_region (E := TryzE) Tryzok ?_; (iterate 4 refine rq rfl rfl rfl rfl rfl ?_)
  refine rc rfl rfl rfl rfl rfl rfl good112 (c112 _ _) (CoL.refl _) rfl rfl ?_; refine rq rfl rfl rfl rfl rfl ?_; refine rg_nil ?_; show HW _ _ _ _ _; refine hw_seq ?_; refine hw_region (E := TryzE) Tryzok ?_
  (iterate 2 refine rq rfl rfl rfl rfl rfl ?_); refine rg_nil ?_; show HW _ _ _ _ _; refine hw_cond _ rfl (fun r0 => ?_) (fun r0 => ?_)
  · skip
    have h0 := r0
    have h0 := of_decide_eq_false (not_t h0)
    try simp only [Int.toNat_natCast] at h0
    refine hw_seq ?_; refine hw_region (E := TryzE) Tryzok ?_; (iterate 2 refine rq rfl rfl rfl rfl rfl ?_); refine rg_nil ?_; show HW _ _ _ _ _; refine hw_ret ?_; refine ⟨.inr rfl, ?_⟩
    exact ⟨_, _, _, _, rfl, (by (repeat' apply And.intro) <;> first | trivial | exact Nat.le_of_ble_eq_true rfl | rfl), rfl, (by (repeat' apply And.intro) <;> first | trivial | exact Nat.le_of_ble_eq_true rfl | rfl), ⟨cci (by unfold cmpV; rw [if_pos h0]), trivial⟩⟩
  · skip
    have h0 := r0
    have h0 := of_decide_eq_true (not_f h0)
    try simp only [Int.toNat_natCast] at h0
    refine hw_skip ?_; show HW _ _ _ _ _; (iterate 2 refine hw_seq ?_); refine hw_region (E := TryzE) Tryzok ?_; (iterate 4 refine rq rfl rfl rfl rfl rfl ?_)
    refine rc rfl rfl rfl rfl rfl rfl good112 (c112 _ _) (CoL.refl _) rfl rfl ?_; refine rq rfl rfl rfl rfl rfl ?_; refine rg_nil ?_; show HW _ _ _ _ _; refine hw_seq ?_; refine hw_region (E := TryzE) Tryzok ?_
    (iterate 2 refine rq rfl rfl rfl rfl rfl ?_); refine rg_nil ?_; show HW _ _ _ _ _; refine hw_cond _ rfl (fun r1 => ?_) (fun r1 => ?_)
    · skip
      have h1 := r1
      have h1 := of_decide_eq_false (not_t h1)
      try simp only [Int.toNat_natCast] at h1
      refine hw_seq ?_; refine hw_region (E := TryzE) Tryzok ?_; (iterate 2 refine rq rfl rfl rfl rfl rfl ?_); refine rg_nil ?_; show HW _ _ _ _ _; refine hw_ret ?_; refine ⟨.inr rfl, ?_⟩
      exact ⟨_, _, _, _, rfl, (by (repeat' apply And.intro) <;> first | trivial | exact Nat.le_of_ble_eq_true rfl | rfl), rfl, (by (repeat' apply And.intro) <;> first | trivial | exact Nat.le_of_ble_eq_true rfl | rfl), ⟨cci (by unfold cmpV; rw [if_neg (by omega), if_pos h1]), trivial⟩⟩
    · skip
      have h1 := r1
      have h1 := of_decide_eq_true (not_f h1)
      try simp only [Int.toNat_natCast] at h1
      refine hw_skip ?_; show HW _ _ _ _ _; refine hw_seq ?_; refine hw_region (E := TryzE) Tryzok ?_; (iterate 4 refine rq rfl rfl rfl rfl rfl ?_)
      refine rc rfl rfl rfl rfl rfl rfl good118 (c118 _ _ (by assumption) (by assumption)) (CoL.refl _) rfl rfl ?_; refine rq rfl rfl rfl rfl rfl ?_; refine rg_nil ?_; show HW _ _ _ _ _; refine hw_ret ?_; refine ⟨.inr rfl, ?_⟩
      exact ⟨_, _, _, _, rfl, (by (repeat' apply And.intro) <;> first | trivial | exact Nat.le_of_ble_eq_true rfl | rfl), rfl, (by (repeat' apply And.intro) <;> first | trivial | exact Nat.le_of_ble_eq_true rfl | rfl), ⟨cci (by unfold cmpV; rw [if_neg (by omega), if_neg (by omega)]), trivial⟩⟩
end Go.Hx
end
section
namespace Go.Hx
abbrev emp : ByteArray := ⟨#[]⟩
def okVal (v : Val) : Bool :=
  if v.kind = 0 then decide (v.num = 0) && decide (v.str = emp)
  else if v.kind = 1 then decide (v.str = emp)
  else if v.kind = 2 then decide (v.num = 0) && decide (v.str.size ≤ 200)
  else decide (v.kind = 3) && decide (1 ≤ v.num) && decide (v.str = emp)
def Val.ok (v : Val) : Prop := v.str.size ≤ 68719476736
def valsOk (l : List Val) : Prop := ∀ j, j < l.length → (l.getD j default).ok
def Row.ok (r : Row) : Prop := r.vals.length ≤ 68719476736 ∧ valsOk r.vals
def rowsOk (l : List Row) : Prop := ∀ j, j < l.length → (l.getD j default).ok
def Tbl.ok (t : Tbl) : Prop := t.attrs.length ≤ 68719476736 ∧ t.rows.length ≤ 68719476736 ∧ rowsOk t.rows
def dbOk (d : DB) : Prop := d.length ≤ 68719476736 ∧ ∀ j, j < d.length → Tbl.ok (d.getD j default)
def Chg.ok (x : Chg) : Prop := x.table.ok ∧ x.row.ok ∧ x.value.ok
def chgsOk (l : List Chg) : Prop := ∀ j, j < l.length → (l.getD j default).ok
def ltr (c : Int) : Bool := (decide (97 ≤ c) && decide (c ≤ 122)) || (decide (65 ≤ c) && decide (c ≤ 90)) || decide (c = 95)
def dig (c : Int) : Bool := decide (48 ≤ c) && decide (c ≤ 57)
abbrev nullS : ByteArray := ⟨#[110, 117, 108, 108]⟩
def nmRest (s : ByteArray) : Bool := (List.range s.size).all fun i => ltr (byteAt s i) || dig (byteAt s i)
def isNm (s : ByteArray) : Bool := decide (s.size ≠ 0) && decide (s.size ≤ 24) && ltr (byteAt s 0) && decide (s ≠ nullS) && nmRest s
def atIx (l : List ByteArray) (s : ByteArray) : Int := idx (fun x => decide (x = s)) l
def nmsAt (l : List ByteArray) (i : Nat) : Bool := isNm (l.getD i default) && decide (atIx (l.take i) (l.getD i default) < 0)
def nmsOk (l : List ByteArray) : Bool := (List.range l.length).all (nmsAt l)
def rowsErr (n : Nat) (before : Int) : List Row → Int
  | [] => 0
  | r :: rs => if r.id ≤ before then 1 else if r.vals.length ≠ n then 6 else if (r.vals.all okVal) = false then 1 else rowsErr n r.id rs
def tblErr (t : Tbl) : Int :=
  if isNm t.name = false then 1 else if 16 < t.attrs.length ∨ 1000 < t.rows.length then 3 else if nmsOk t.attrs = false then 1 else rowsErr t.attrs.length 0 t.rows
theorem rowsErr_drop {n : Nat} {l : List Row} {i : Nat} {b : Int} (hi : i < l.length) : rowsErr n b (l.drop i) = if (l.getD i default).id ≤ b then 1 else if (l.getD i default).vals.length ≠ n then 6 else if ((l.getD i default).vals.all okVal) = false then 1 else rowsErr n (l.getD i default).id (l.drop (i + 1)) := by
  rw [List.drop_eq_getElem_cons hi, rowsErr]
  simp only [List.getD, List.getElem?_eq_getElem hi, Option.getD_some]
def rowAt (l : List Row) (id : Int) : Option Nat := l.findIdx? fun r => decide (r.id = id)
def rowIx (l : List Row) (id : Int) : Int := idx (fun r => decide (r.id = id)) l
def tblIx (d : DB) (s : ByteArray) : Int := idx (fun t => decide (t.name = s)) d
def crErr (d : DB) (t : Tbl) : Int := if tblErr t ≠ 0 then tblErr t else if 0 ≤ tblIx d t.name then 5 else if 50 ≤ d.length then 3 else 0
theorem range_all_f {p : Nat → Bool} {n i : Nat} (hi : i < n) (h : p i = false) : (List.range n).all p = false := by
  rw [List.all_eq_false]; exact ⟨i, List.mem_range.2 hi, by simp [h]⟩
theorem range_all_t {p : Nat → Bool} {n : Nat} (h : ∀ j, j < n → p j = true) : (List.range n).all p = true := by
  rw [List.all_eq_true]; exact fun j hj => h j (List.mem_range.1 hj)
theorem isNm_f0 {s : ByteArray} (h : s.size = 0) : isNm s = false := by simp [isNm, h]
theorem isNm_len {s : ByteArray} (h : 24 < s.size) : isNm s = false := by
  have : ¬ s.size ≤ 24 := by omega
  simp [isNm, this]
theorem isNm_ltr {s : ByteArray} (h : ltr (byteAt s 0) = false) : isNm s = false := by simp [isNm, h]
theorem isNm_ltr2 {s : ByteArray} {i : Nat} (hi : (i : Int) = 0) (h : ltr (byteAt s i) = false) : isNm s = false := by
  obtain rfl : i = 0 := by omega
  exact isNm_ltr h
theorem lead {s : ByteArray} {i : Nat} (hz : 0 < i → ltr (byteAt s 0) = true) (h : i = 0 → ltr (byteAt s i) = true) : ltr (byteAt s 0) = true := by
  by_cases e : i = 0
  · subst e; exact h rfl
  · exact hz (by omega)
theorem isNm_null {s : ByteArray} (h : s = nullS) : isNm s = false := by simp [isNm, h]
theorem isNm_rest {s : ByteArray} {i : Nat} (hi : i < s.size) (h1 : ltr (byteAt s i) = false) (h2 : dig (byteAt s i) = false) : isNm s = false := by
  have : nmRest s = false := range_all_f hi (by simp [h1, h2])
  simp [isNm, this]
theorem isNm_t {s : ByteArray} (h0 : s.size ≠ 0) (h1 : s.size ≤ 24) (h2 : ltr (byteAt s 0) = true) (h3 : s ≠ nullS) (h4 : ∀ j, j < s.size → (ltr (byteAt s j) || dig (byteAt s j)) = true) : isNm s = true := by
  have : nmRest s = true := range_all_t h4
  simp [isNm, this, h0, h1, h2, h3]
theorem size_emp {s : ByteArray} : s.size = 0 ↔ s = emp := by
  constructor
  · intro h
    refine ByteArray.ext (Array.ext' ?_)
    have : s.data.toList.length = 0 := by rw [Array.length_toList]; exact h
    exact List.eq_nil_of_length_eq_zero this
  · rintro rfl; rfl
theorem idx_any {α : Type} {p : α → Bool} {l : List α} : decide (0 ≤ idx p l) = l.any p := by
  unfold idx
  cases h : l.findIdx? p with
  | none =>
    rw [List.findIdx?_eq_none_iff] at h
    have : l.any p = false := by rw [List.any_eq_false]; intro x hx; simp [h x hx]
    simp [this]
  | some i =>
    rw [List.findIdx?_eq_some_iff_getElem] at h
    obtain ⟨hi, hp, _⟩ := h
    have : l.any p = true := by rw [List.any_eq_true]; exact ⟨_, List.getElem_mem hi, hp⟩
    simp [this]
theorem idx_lt {α : Type} {p : α → Bool} {l : List α} : idx p l < l.length := by
  unfold idx
  cases h : l.findIdx? p with
  | none => simp; omega
  | some i =>
    rw [List.findIdx?_eq_some_iff_getElem] at h
    simp [h.1]
theorem idx_spec {α : Type} [Inhabited α] {p : α → Bool} {l : List α} (h : 0 ≤ idx p l) : (idx p l).toNat < l.length ∧ p (l.getD (idx p l).toNat default) = true := by
  unfold idx at h ⊢
  cases h2 : l.findIdx? p with
  | none => simp [h2] at h
  | some i =>
    rw [List.findIdx?_eq_some_iff_getElem] at h2
    obtain ⟨hi, hp, _⟩ := h2
    simp [List.getD, hi, hp]
theorem all_not_any {l : List Val} : (!l.any fun v => !okVal v) = l.all okVal := by
  induction l with
  | nil => rfl
  | cons x l ih => simp only [List.any_cons, List.all_cons, Bool.not_or, Bool.not_not, ih]
def ofI (k : Int) : Val :=
  if k = 0 then ⟨1, 0, emp⟩ else if k = 1 then ⟨1, 1, emp⟩ else if k = 2 then ⟨1, 2, emp⟩ else if k = 3 then ⟨0, 0, emp⟩ else if k = 4 then ⟨2, 0, ⟨#[97]⟩⟩ else if k = 5 then ⟨2, 0, ⟨#[98]⟩⟩
  else if k = 6 then ⟨2, 0, emp⟩ else if k = 7 then ⟨3, 1, emp⟩ else if k = 8 then ⟨1, -1, emp⟩ else if k = 9 then ⟨2, 0, ⟨#[97, 98]⟩⟩ else if k = 10 then ⟨3, 2, emp⟩ else ⟨1, 7, emp⟩
def ofV (c : UInt8) : Val := ofI ((c.toNat : Int) % 12)
def nmOf (x : Opn) : ByteArray := [⟨#[114]⟩, ⟨#[115]⟩, ⟨#[116]⟩, emp].getD (x.name.toNat % 4) default
def rowOf (x : Opn) : Row := ⟨x.id, x.vals.map ofV⟩
def letters8 : List ByteArray := [⟨#[97]⟩, ⟨#[98]⟩, ⟨#[99]⟩, ⟨#[100]⟩, ⟨#[101]⟩, ⟨#[102]⟩, ⟨#[103]⟩, ⟨#[104]⟩]
def wideVals (l : List UInt8) (n : Nat) : List Val := (List.range n).map fun k => ofV (l.getD k default)
def wideRows (x : Rcp) (n : Nat) : List Row := (List.range x.rows.length).map fun (i : Nat) => ⟨1 + (i : Int) * (1 + (x.gap.toNat : Int) % 3), wideVals (x.rows.getD i default) n⟩
def wide (x : Rcp) (n : Nat) : Tbl := ⟨⟨#[114]⟩, letters8.take n, wideRows x n⟩
def tblOf (x : Opn) : Tbl := { wide x.t (x.t.attrs.toNat % 4) with name := nmOf x }
theorem getD_map {α β : Type} [Inhabited α] [Inhabited β] (f : α → β) (l : List α) (i : Nat) (h : i < l.length) : (l.map f).getD i default = f (l.getD i default) := by
  simp [List.getD, h]
theorem getD_rmap {β : Type} [Inhabited β] (f : Nat → β) (n i : Nat) (h : i < n) : ((List.range n).map f).getD i default = f i := by
  simp [List.getD, h]
end Go.Hx
end
