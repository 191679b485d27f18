/- A part of the proof: lemmas for the theorem of this claim, merged by a program of ours out of Rb, Cs26, Cs27, Cs28, Cs29, V28, Cz0, Cs36, Cz1. -/
import Derived.Test.YtgeliioenkmfhaaGreatDoorRows
import Derived.Test.YtgeliioenkmfhaaGreatDoorZ31
import Derived.Test.YtgeliioenkmfhaaGreatDoorZ33
set_option linter.all false
section
namespace Go.Hx
open Go.Proofs Go.Proofs.YtgeliioenkmfhaaGreatDoor
open Go.RowKit Go.ChangeShapes Go.WideShapes Go.ChangeAt
section
variable {H : Type}
theorem blk_all {d : DataW H} {l : List (DataW H)} (h : d ∈ l) : Rows.uptoBulk d ≤ Rows.uptoBulkAll l := by
  induction l with
  | nil => cases h
  | cons x r ih =>
    rw [Rows.uptoBulkAll]
    rcases List.mem_cons.1 h with e | e
    · subst e; omega
    · have := ih e; omega
theorem blk_one (d : DataW H) : 1 ≤ Rows.uptoBulk d := by
  cases d with
  | lit l => cases l <;> simp [Rows.uptoBulk]
  | _ => simp [Rows.uptoBulk]
theorem blk_many (l : List (DataW H)) : l.length ≤ Rows.uptoBulkAll l := by
  induction l with
  | nil => simp
  | cons x r ih => have := blk_one x; rw [Rows.uptoBulkAll, List.length_cons]; omega
theorem blk_part {l r : List (DataW H)} {d : DataW H} (h : d ∈ l) : Rows.uptoBulk d ≤ Rows.uptoBulk (.slice l r) := by
  have := blk_all h
  rw [Rows.uptoBulk]; omega
theorem blk_agg {l : List (DataW H)} {d : DataW H} (h : d ∈ l) : Rows.uptoBulk d ≤ Rows.uptoBulk (.agg l) := by
  have := blk_all h
  rw [Rows.uptoBulk]; omega
theorem blk_len (l r : List (DataW H)) : l.length ≤ Rows.uptoBulk (.slice l r) := by
  have := blk_many l
  rw [Rows.uptoBulk]; omega
end
def RdB (P : Program) (t : TypeId) (n : Nat) {α : Type} (c : α → Nat → PV) (B : Nat → α → Prop) : Prop :=
  ∀ (H : Type) (enc : TypeId × Value → H) (w : World) (sp : Nat → Bool) (held : Bool) (fuel : Nat) (cs : List Value) (x : DataW H × List MemPlace), DataW.trod enc P w 0 sp held fuel t cs = some x →
    cs.length = n ∧ ∃ a : α, B (Rows.uptoBulk x.1) a ∧ ∀ j, j < n → ∃ v, cs[j]? = some v ∧ RepP (nowImm w) (c a j) v
section
variable {P : Program} {t e : TypeId}
theorem Rd.toB {n : Nat} {α : Type} {c : α → Nat → PV} (h : Rd P t n c) : RdB P t n c fun _ _ => True := by
  intro H enc w sp held fuel cs x hx
  obtain ⟨h1, a, h2⟩ := h _ enc w sp held fuel cs x hx
  exact ⟨h1, a, trivial, h2⟩
theorem RdB.co {n : Nat} {α β : Type} {c : α → Nat → PV} {c' : β → Nat → PV} {B : Nat → α → Prop} {B' : Nat → β → Prop} (h : RdB P t n c B) (f : α → β) (hB : ∀ b a, B b a → B' b (f a)) (hc : ∀ a j, j < n → CoP (c a j) (c' (f a) j)) : RdB P t n c' B' := by
  intro H enc w sp held fuel cs x hx
  obtain ⟨h1, a, h0, h2⟩ := h _ enc w sp held fuel cs x hx
  refine ⟨h1, f a, hB _ _ h0, fun j hj => ?_⟩
  obtain ⟨v, h3, h4⟩ := h2 j hj
  exact ⟨v, h3, hc a j hj _ _ h4⟩
theorem rdB_slice {s : Nat} {α : Type} [Inhabited α] {c : α → Nat → PV} {B : Nat → α → Prop} (mono : ∀ b b' x, b ≤ b' → B b x → B b' x) (ht : P.underlying t = some (.slice e)) (hc : P.cellsOf e = s) (hs : 0 < s) (h : RdB P e s c B) : RdB P t 1 (pslC s c) (fun b l => l.length ≤ b ∧ ∀ i, i < l.length → B b (l.getD i default)) := by
  classical
  intro H enc w sp held fuel cs x hx
  rcases DataW.trod_slice ht hx with ⟨rfl, _⟩ | ⟨a, len, cap, elems, rest, n, rfl, rfl, rfl, hb, hl, hm, hlen, hel, _, _⟩
  · refine ⟨rfl, [], ⟨Nat.zero_le _, fun i hi => absurd hi (Nat.not_lt_zero i)⟩, fun j hj => ?_⟩
    obtain rfl : j = 0 := by omega
    exact ⟨_, rfl, none, 0, rfl, Nat.le_refl _, Nat.zero_le _, (fun hh => by cases hh), fun hh => absurd hh (Nat.lt_irrefl 0)⟩
  · have each : ∀ i, i < len → ∃ q : α, B (Rows.uptoBulk (DataW.slice (elems.map (·.1)) (rest.map (·.1)))) q ∧ ∀ j, j < s → ∃ v, w.cell? (a.add (i * s + j)) = some v ∧ RepP (nowImm w) (c q j) v := by
      intro i hi
      have h1 := hel i hi
      rw [hc] at h1
      rw [List.getElem?_eq_getElem (by omega)] at h1
      obtain ⟨cs', h2, h3⟩ := Option.bind_eq_some_iff.1 h1
      obtain ⟨_, h4, h5⟩ := World.cells?_some h2
      obtain ⟨_, q, h9, h6⟩ := h _ enc w sp held n cs' _ h3
      refine ⟨q, mono _ _ q (blk_part (List.mem_map_of_mem (List.getElem_mem _))) h9, fun j hj => ?_⟩
      obtain ⟨v, h7, h8⟩ := h6 j hj
      refine ⟨v, ?_, h8⟩
      have := h5 j hj
      rw [h7] at this
      rw [← this]
      congr 1
      unfold Addr.add
      by_cases hj0 : j = 0
      · subst hj0
        simp
      · by_cases hi0 : i * s = 0
        · simp [hi0, hj0]
        · have : ¬ (i * s + j = 0) := by omega
          simp only [hj0, hi0, this, if_false]
          congr 1
          omega
    refine ⟨rfl, (List.range len).map fun i => if hi : i < len then Classical.choose (each i hi) else default, ⟨?_, fun i hi => ?_⟩, fun j hj => ?_⟩
    · rw [List.length_map, List.length_range, ← hlen]
      have := blk_len (elems.map (·.1)) (rest.map (·.1))
      rw [List.length_map] at this
      exact this
    · have hi : i < len := by simpa using hi
      have hch := (Classical.choose_spec (each i hi)).1
      have e : ((List.range len).map fun i => if hi : i < len then Classical.choose (each i hi) else default).getD i default = Classical.choose (each i hi) := by simp [List.getD, hi]
      rw [e]
      exact hch
    obtain rfl : j = 0 := by omega
    refine ⟨_, rfl, some a, cap, by simp, by simpa using hl, hm, (fun hh => by cases hh), fun hn => ?_⟩
    have hn : 0 < len := by simpa using hn
    have hspot : a.spot = none := by
      obtain ⟨q, _, hq⟩ := each 0 hn
      obtain ⟨v, hv, _⟩ := hq 0 hs
      have : a.add (0 * s + 0) = a := by simp [Addr.add]
      rw [this] at hv
      unfold World.cell? at hv
      split at hv
      · split at hv
        · cases hv
        · rename_i hsp
          simpa using hsp
      · cases hv
    refine ⟨a.block, a.off, ?_, fun i j hi hj => ?_⟩
    · obtain ⟨b, o, spo⟩ := a
      simp only at hspot
      subst hspot
      rfl
    · have hi : i < len := by simpa using hi
      have hch := (Classical.choose_spec (each i hi)).2
      obtain ⟨v, hv, hr⟩ := hch j hj
      refine ⟨v, ?_, ?_⟩
      · unfold World.cell? at hv
        have hblk : (a.add (i * s + j)).block = a.block := by unfold Addr.add; split <;> rfl
        have hoff : (a.add (i * s + j)).off = a.off + (i * s + j) := by
          unfold Addr.add
          split
          · rename_i h0; rw [h0]; rfl
          · rfl
        rw [hblk, hoff] at hv
        unfold cellIn nowImm
        split at hv
        · rename_i hb'
          rw [hb']
          split at hv
          · cases hv
          · exact hv
        · cases hv
      · have : lf c ((List.range len).map fun i => if hi : i < len then Classical.choose (each i hi) else default) i j = c (Classical.choose (each i hi)) j := by
          unfold lf
          simp [List.getD, hi]
        rw [this]
        exact hr
theorem rdB_fields {H : Type} {enc : TypeId × Value → H} {w : World} {sp : Nat → Bool} {held : Bool} {fuel : Nat} {cs : List Value} {x : DataW H × List MemPlace} {fs : Array Field} (ht : P.underlying t = some (.struct fs)) (h : DataW.trod enc P w 0 sp held fuel t cs = some x) :
    cs.length = P.cellsOf t ∧ ∃ n, ∀ (i : Nat) (f : Field), fs[i]? = some f → ∃ y, DataW.trod enc P w 0 sp held n f.type ((cs.drop f.offset).take (P.cellsOf f.type)) = some y ∧ Rows.uptoBulk y.1 ≤ Rows.uptoBulk x.1 := by
  obtain ⟨xs, n, _, rfl, h1, h2, h3⟩ := DataW.trod_struct ht h
  refine ⟨h1, n, fun i f hf => ?_⟩
  have := h3 i f hf
  rw [this]
  have hi : i < xs.length := by rw [h2]; exact (Array.getElem?_eq_some_iff.1 hf).1
  exact ⟨_, List.getElem?_eq_getElem hi, blk_agg (List.mem_map_of_mem (List.getElem_mem hi))⟩
theorem rdB_field {H : Type} {enc : TypeId × Value → H} {w : World} {sp : Nat → Bool} {held : Bool} {n off s b : Nat} {ft : TypeId} {cs : List Value} {y : DataW H × List MemPlace} {α : Type} {c : α → Nat → PV} {B : Nat → α → Prop} (mono : ∀ b b' x, b ≤ b' → B b x → B b' x) (h : RdB P ft s c B)
    (hy : DataW.trod enc P w 0 sp held n ft ((cs.drop off).take (P.cellsOf ft)) = some y ∧ Rows.uptoBulk y.1 ≤ b) :
    ∃ a : α, B b a ∧ ∀ j, j < s → ∃ v, cs[off + j]? = some v ∧ RepP (nowImm w) (c a j) v := by
  obtain ⟨h1, a, h0, h2⟩ := h _ enc w sp held n _ y hy.1
  refine ⟨a, mono _ _ a hy.2 h0, fun j hj => ?_⟩
  obtain ⟨v, h3, h4⟩ := h2 j hj
  refine ⟨v, ?_, h4⟩
  rw [List.getElem?_take] at h3
  split at h3
  · rwa [List.getElem?_drop] at h3
  · cases h3
end
theorem rd5 : Rd Tryz.prog 5 1 (fun (b : BitVec 8) _ => .raw (.int .u8 (b.toNat : Int))) := (rd_u8 Tryz.underlying5).co (fun u => u.toBitVec) fun a j hj => CoP.refl _
theorem rd94 : Rd Tryz.prog 71 2 Dp.c := by
  intro H enc w sp held fuel cs x h
  obtain ⟨hl, n, hf⟩ := rd_fields Tryz.underlying71 h
  obtain ⟨y0, e0⟩ := hf 0 _ rfl
  obtain ⟨y1, e1⟩ := hf 1 _ rfl
  obtain ⟨a0, h0⟩ := rd_field rd5 e0
  obtain ⟨a1, h1⟩ := rd_field rd5 e1
  refine ⟨hl.trans (by kernel_rfl), (⟨a0, a1⟩ : Dp), fun j hj => ?_⟩
  match j, hj with
  | 0, _ => exact h0 0 (by omega)
  | 1, _ => exact h1 0 (by omega)
theorem rb37 : RdB Tryz.prog 22 1 (pslC 2 Dp.c) fun b l => l.length ≤ b :=
  (rdB_slice (B := fun _ _ => True) (fun _ _ _ _ _ => trivial) Tryz.underlying22 (by kernel_rfl) (by omega) rd94.toB).co id (fun b a h => h.1) fun a j hj => CoP.refl _
theorem rb39 : RdB Tryz.prog 24 2 Dps.c fun b d => d.l.length ≤ b := by
  intro H enc w sp held fuel cs x h
  obtain ⟨hl, n, hf⟩ := rdB_fields Tryz.underlying24 h
  obtain ⟨y0, e0⟩ := hf 0 _ rfl
  obtain ⟨y1, e1⟩ := hf 1 _ rfl
  obtain ⟨a0, _, h0⟩ := rdB_field (fun _ _ _ _ _ => trivial) rd5.toB e0
  obtain ⟨a1, hb, h1⟩ := rdB_field (B := fun b (l : List Dp) => l.length ≤ b) (fun _ _ _ h k => Nat.le_trans k h) rb37 e1
  refine ⟨hl.trans (by kernel_rfl), (⟨a0, a1⟩ : Dps), hb, fun j hj => ?_⟩
  match j, hj with
  | 0, _ => exact h0 0 (by omega)
  | 1, _ => exact h1 0 (by omega)
theorem rb_deps {H : Type} {enc : TypeId × Value → H} {W : World} {cs : Array Value} {d : DataW H} {ps : List MemPlace} (hd : DataW.Trod enc Tryz.prog W 0 (fun _ => true) true 24 (.agg cs) d ps) : ∃ a : Dps, a.l.length ≤ Rows.uptoBulk d ∧ RepPC (nowImm W) a.pc (.agg cs) := by
  obtain ⟨fuel, hf⟩ := hd
  obtain ⟨hl, a, h0, ha⟩ := rb39 _ enc W _ _ fuel _ _ hf
  obtain ⟨u0, e0, r0⟩ := ha 0 (by omega)
  obtain ⟨u1, e1, r1⟩ := ha 1 (by omega)
  have hcs : cs.toList = [u0, u1] := by
    have hl : cs.toList.length = 2 := hl
    have e0 : cs.toList[0]? = some u0 := e0
    have e1 : cs.toList[1]? = some u1 := e1
    generalize cs.toList = l at *
    match l, hl with
    | [x, y], _ => simp at e0 e1; subst e0 e1; rfl
  refine ⟨a, h0, [u0, u1], ?_, r0, r1, trivial⟩
  rw [← hcs]
theorem par39 : Tryz.prog.readableRec 24 = true ∧ 24 < Tryz.prog.types.size := ⟨by kernel_rfl, of_decide_eq_true (by kernel_rfl)⟩
end Go.Hx
end
section
namespace Go.Hx
def noA (s : AS) (a : Nat) : AS := s &&& ~~~((1 : AS) <<< a)
theorem noA_v (s : AS) (a : Nat) {b : Int} (h : b.toNat = a) : bitV .andNot .u32 (asI s) (IntKind.wrap .u32 (1 * 2 ^ (min b.toNat 32))) = asI (noA s a) := by
  rw [h]
  exact and_shl s a
def rkStep (n : Int) (l : List Fd) (s : AS) (a : Nat) : AS := if skey n l (noA s a) = true then noA s a else s
def lessK (n : Int) (l : List Fd) (s : AS) (k : Nat) : AS := (List.range k).foldl (fun s j => rkStep n l s (n.toNat - 1 - j)) s
def rkE (n : Int) (l : List Fd) (s : AS) : Int := if vErr n l = 0 then (if skey n l s = true then 0 else 1) else vErr n l
def rkS (n : Int) (l : List Fd) (s : AS) : AS := if rkE n l s = 0 then lessK n l s n.toNat else 0
def isKey (n : Int) (l : List Fd) (s : AS) : Bool := skey n l s && (List.range n.toNat).all fun a => !(s.getLsbD a && skey n l (noA s a))
theorem isKey_f1 {n : Int} {l : List Fd} {s : AS} (h : skey n l s = false) : isKey n l s = false := by unfold isKey; rw [h]; rfl
theorem isKey_f2 {n : Int} {l : List Fd} {s : AS} {a : Nat} (ha : a < n.toNat) (h : s.getLsbD a = true) (h2 : skey n l (noA s a) = true) : isKey n l s = false := by
  unfold isKey
  rw [Bool.and_eq_false_iff]
  refine .inr ?_
  rw [List.all_eq_false]
  exact ⟨a, List.mem_range.2 ha, by rw [h, h2]; decide⟩
theorem isKey_t {n : Int} {l : List Fd} {s : AS} (h : skey n l s = true) (h2 : ∀ a, a < n.toNat → (s.getLsbD a && skey n l (noA s a)) = false) : isKey n l s = true := by
  unfold isKey
  rw [h, Bool.true_and, List.all_eq_true]
  intro a ha
  rw [h2 a (List.mem_range.1 ha)]
  rfl
def keysT (n : Int) (l : List Fd) (i : Nat) : List AS := ((List.range i).map (BitVec.ofNat 32)).filter (isKey n l)
theorem keysT_t {n : Int} {l : List Fd} {i : Nat} (h : isKey n l (BitVec.ofNat 32 i) = true) : keysT n l (i + 1) = keysT n l i ++ [BitVec.ofNat 32 i] := by
  unfold keysT
  rw [List.range_succ, List.map_append, List.filter_append]
  simp only [List.map_cons, List.map_nil, List.filter_cons, h, if_true, List.filter_nil]
theorem keysT_f {n : Int} {l : List Fd} {i : Nat} (h : isKey n l (BitVec.ofNat 32 i) = false) : keysT n l (i + 1) = keysT n l i := by
  unfold keysT
  rw [List.range_succ, List.map_append, List.filter_append]
  simp only [List.map_cons, List.map_nil, List.filter_cons, h, Bool.false_eq_true, if_false, List.filter_nil, List.append_nil]
theorem keysT_len (n : Int) (l : List Fd) (i : Nat) : (keysT n l i).length ≤ i := by
  unfold keysT
  exact Nat.le_trans (List.length_filter_le _ _) (by rw [List.length_map, List.length_range]; exact Nat.le_refl _)
def keysL (n : Int) (l : List Fd) : List AS := if vErr n l = 0 then ord (keysT n l (2 ^ n.toNat)) else []
theorem keysL_t {n : Int} {l : List Fd} (h : vErr n l = 0) : keysL n l = ord (keysT n l (2 ^ n.toNat)) := if_pos h
theorem keysL_f {n : Int} {l : List Fd} (h : ¬ vErr n l = 0) : keysL n l = [] := if_neg h
theorem full_n {n : Int} (h0 : 0 ≤ n) (h1 : n ≤ 16) : asI (fullI n) + 1 = (2 ^ n.toNat : Nat) ∧ 2 ^ n.toNat ≤ 65536 := by
  have h2 : 2 ^ n.toNat ≤ 2 ^ 16 := Nat.pow_le_pow_right (by omega) (by omega)
  have h3 : 0 < 2 ^ n.toNat := Nat.two_pow_pos _
  unfold fullI asI
  rw [fullS_toNat (Nat.min_le_right _ _), Nat.min_eq_left (by omega)]
  omega
end Go.Hx
end
section
namespace Go.Hx
def bC : Bool → Nat → PV := fun b _ => .raw (.bool b)
def supN (n : Int) (l : List Fd) (k : Nat) : Bool := decide (clo l (BitVec.ofNat 32 k) = fullI n)
def supT (n : Int) (l : List Fd) (i : Nat) : List Bool := (List.range (2 ^ n.toNat)).map fun k => decide (k < i) && supN n l k
def supL (n : Int) (l : List Fd) : List Bool := supT n l (2 ^ n.toNat)
end Go.Hx
end
section
namespace Go.Hx
section
variable {n : Int} {l : List Fd}
def okA (n : Int) (l : List Fd) (i a : Nat) : Bool := supN n l i && (List.range a).all fun b => !(i.testBit b && supN n l (i ^^^ 2 ^ b))
section
variable {i a : Nat} (hv : vErr n l = 0) (hi : i < 2 ^ n.toNat) (ha : (a : Int) < n) (hx : i ^^^ 2 ^ a < 2 ^ n.toNat)
include hv hi ha hx
end
end
end Go.Hx
end
section
namespace Go.Hx
theorem keysL_len (n : Int) (l : List Fd) : (keysL n l).length ≤ 65536 := by
  unfold keysL
  split
  · rename_i h
    have h1 := ord_len (keysT n l (2 ^ n.toNat))
    have h2 := keysT_len n l (2 ^ n.toNat)
    have h3 := (vErr_ok h)
    have h4 : 2 ^ n.toNat ≤ 2 ^ 16 := Nat.pow_le_pow_right (by omega) (by omega)
    omega
  · simp
theorem has_yes {s : AS} {i : Nat} (h : i < 32) (hh : hasI s i = true) : s.getLsbD i = true := by rwa [hasI_nat h] at hh
theorem has_no1 {s : AS} {i : Nat} {b : Bool} (h : i < 32) (hh : hasI s i = false) : (s.getLsbD i && b) = false := by
  rw [hasI_nat h] at hh
  rw [hh]; rfl
theorem has_no2 {s : AS} {i : Nat} {b : Bool} (hh : b = false) : (s.getLsbD i && b) = false := by rw [hh]; simp
end Go.Hx
end
section
namespace Go.Hx
open Go.Proofs
set_option maxRecDepth 100000
theorem good42 : goodFn Tryz.prog 42 := ⟨Tryz.f42, Tryz.func42, by kernel_rfl, by kernel_rfl⟩
theorem cRIsKey (n : Int) (l : List Fd) (s : AS) (hv : vErr n l = 0) : HPure Tryz.prog 42 [pI n, pP (fdl l), pA s] (prOf [pB (isKey n l s)]) := by
  refine hpure_of (nt := 30) Tryzok Tryz.func42 rfl rfl (Nat.le_of_ble_eq_true rfl) ?_; refine hw_seq ?_; refine hw_region (E := TryzE) Tryzok ?_; refine rq rfl rfl rfl rfl rfl ?_; refine rg_nil ?_; show HW _ _ _ _ _
  (iterate 2 refine hw_seq ?_)
  have hv0 := vErr_ok hv
  refine hw_region (E := TryzE) Tryzok ?_; (iterate 3 refine rq rfl rfl rfl rfl rfl ?_); refine rc rfl rfl rfl rfl rfl rfl good68 (cRSkey n l s) (CoL.refl _) rfl rfl ?_; refine rq rfl rfl rfl rfl rfl ?_; refine rg_nil ?_
  show HW _ _ _ _ _; refine hw_cond _ rfl (fun r0 => ?_) (fun r0 => ?_)
  · skip
    have h0 := r0
    have h0 := not_t h0
    refine hw_seq ?_; refine hw_region (E := TryzE) Tryzok ?_; refine rq rfl rfl rfl rfl rfl ?_; refine rg_nil ?_; show HW _ _ _ _ _; refine hw_ret ?_; refine ⟨.inr rfl, ?_⟩
    exact ⟨_, _, _, _, rfl, (by (repeat' apply And.intro) <;> first | trivial | exact Nat.le_of_ble_eq_true rfl | rfl), rfl, (by (repeat' apply And.intro) <;> first | trivial | exact Nat.le_of_ble_eq_true rfl | rfl), ⟨ccb (isKey_f1 (by assumption)).symm, trivial⟩⟩
  · skip
    have h0 := r0
    have h0 := not_f h0
    refine hw_skip ?_; show HW _ _ _ _ _; (iterate 2 refine hw_seq ?_); refine hw_region (E := TryzE) Tryzok ?_; refine rq rfl rfl rfl rfl rfl ?_; refine rg_nil ?_; show HW _ _ _ _ _; refine hw_block ?_
    refine hw_loopK (ι := Nat) ⟨[(0, some _), (1, some _), (2, some _)], []⟩ ⟨⟨⟨_, rfl, CoR.refl _⟩, ⟨_, rfl, CoR.refl _⟩, ⟨_, rfl, CoR.refl _⟩, trivial⟩, trivial⟩ (fun i => ⟨[(7, some (vI i))], []⟩) (fun i => i ≤ n.toNat ∧ ∀ j, j < i → (s.getLsbD j && skey n l (noA s j)) = false) (fun i => n.toNat - i) (0) (⟨Nat.zero_le _, all_zero⟩) ⟨⟨⟨_, rfl, (by first | exact CoR.refl _ | exact coi (by omega) | exact cob (by simp_all))⟩, trivial⟩, trivial⟩ ?_
    rintro i ⟨hi, hI⟩
    (iterate 2 refine hw_seq ?_); refine hw_region (E := TryzE) Tryzok ?_; (iterate 3 refine rq rfl rfl rfl rfl rfl ?_); refine rg_nil ?_; show HW _ _ _ _ _; refine hw_cond _ rfl (fun r1 => ?_) (fun r1 => ?_)
    · skip
      have h1 := r1
      have h1 := of_decide_eq_true h1
      try simp only [Int.toNat_natCast] at h1
      refine hw_skip ?_; show HW _ _ _ _ _; refine hw_seq ?_; refine hw_block ?_; refine hw_seq ?_; refine hw_region (E := TryzE) Tryzok ?_; (iterate 2 refine rq rfl rfl rfl rfl rfl ?_)
      refine rc rfl rfl rfl rfl rfl rfl good69 (cHas s i) (CoL.refl _) rfl rfl ?_; refine rq rfl rfl rfl rfl rfl ?_; refine rsplit rfl rfl (fun r2 => ?_) (fun r2 => ?_)
      · skip
        have h2 := r2
        (iterate 6 refine rq rfl rfl rfl rfl (gtt r2) ?_); refine rc rfl rfl rfl rfl rfl rfl good68 (cRSkey n l (noA s i)) (⟨CoC.refl _, CoC.refl _, cci (noA_v _ _ (by omega)), trivial⟩) rfl (gtt r2) ?_
        refine rq rfl rfl rfl rfl rfl ?_; refine rg_nil ?_; show HW _ _ _ _ _; refine hw_cond _ rfl (fun r3 => ?_) (fun r3 => ?_)
        · skip
          have h3 := r3
          have h3 := bif_t r2 h3
          refine hw_seq ?_; refine hw_region (E := TryzE) Tryzok ?_; refine rq rfl rfl rfl rfl rfl ?_; refine rg_nil ?_; show HW _ _ _ _ _; refine hw_ret ?_; refine ⟨.inr rfl, ?_⟩
          exact ⟨_, _, _, _, rfl, (by (repeat' apply And.intro) <;> first | trivial | exact Nat.le_of_ble_eq_true rfl | rfl), rfl, (by (repeat' apply And.intro) <;> first | trivial | exact Nat.le_of_ble_eq_true rfl | rfl), ⟨ccb (isKey_f2 (a := i) (by omega) (has_yes (by omega) (by assumption)) (by assumption)).symm, trivial⟩⟩
        · skip
          have h3 := r3
          have h3 := bif_t r2 h3
          refine hw_skip ?_; show HW _ _ _ _ _; refine hw_region (E := TryzE) Tryzok ?_; (iterate 3 refine rq rfl rfl rfl rfl rfl ?_); refine rg_nil ?_; refine ⟨i + 1, ?_, ?_, ?_⟩
          · exact ⟨by show i + 1 ≤ _; omega, all_succ hI (by first | exact has_no1 (by omega) (by assumption) | exact has_no2 (by assumption))⟩
          · first | omega | (dsimp only; omega)
          · exact ⟨⟨⟨_, rfl, (by first | exact CoR.refl _ | exact coi (by omega) | exact cob (by simp_all))⟩, ⟨_, rfl, CoR.refl _⟩, ⟨_, rfl, CoR.refl _⟩, ⟨_, rfl, CoR.refl _⟩, trivial⟩, trivial⟩
      · skip
        have h2 := r2
        (iterate 7 refine rk rfl rfl rfl (gft r2) ?_); refine rq rfl rfl rfl rfl rfl ?_ (hp := r2); refine rg_nil ?_; show HW _ _ _ _ _; refine hw_cond _ rfl (fun e => by cases e) (fun _ => ?_); refine hw_skip ?_; show HW _ _ _ _ _
        refine hw_region (E := TryzE) Tryzok ?_; (iterate 3 refine rq rfl rfl rfl rfl rfl ?_); refine rg_nil ?_; refine ⟨i + 1, ?_, ?_, ?_⟩
        · exact ⟨by show i + 1 ≤ _; omega, all_succ hI (by first | exact has_no1 (by omega) (by assumption) | exact has_no2 (by assumption))⟩
        · first | omega | (dsimp only; omega)
        · exact ⟨⟨⟨_, rfl, (by first | exact CoR.refl _ | exact coi (by omega) | exact cob (by simp_all))⟩, ⟨_, rfl, CoR.refl _⟩, ⟨_, rfl, CoR.refl _⟩, ⟨_, rfl, CoR.refl _⟩, trivial⟩, trivial⟩
    · skip
      have h1 := r1
      have h1 := of_decide_eq_false h1
      try simp only [Int.toNat_natCast] at h1
      refine hw_exit ?_; show HW _ _ _ _ _; refine hw_seq ?_; refine hw_region (E := TryzE) Tryzok ?_; refine rq rfl rfl rfl rfl rfl ?_; refine rg_nil ?_; show HW _ _ _ _ _; refine hw_ret ?_; refine ⟨.inr rfl, ?_⟩
      exact ⟨_, _, _, _, rfl, (by (repeat' apply And.intro) <;> first | trivial | exact Nat.le_of_ble_eq_true rfl | rfl), rfl, (by (repeat' apply And.intro) <;> first | trivial | exact Nat.le_of_ble_eq_true rfl | rfl), ⟨ccb (isKey_t (by assumption) (fun a ha => hI a (by omega))).symm, trivial⟩⟩
theorem good13 : goodFn Tryz.prog 13 := ⟨Tryz.f13, Tryz.func13, by kernel_rfl, by kernel_rfl⟩
theorem cRAll (n : Int) (l : List Fd) : HPure Tryz.prog 13 [pI n, pP (fdl l)] (prOf [pP (asl (keysL n l)), pI (vErr n l)]) := by
  refine hpure_of (nt := 31) Tryzok Tryz.func13 rfl rfl (Nat.le_of_ble_eq_true rfl) ?_; refine hw_seq ?_; refine hw_region (E := TryzE) Tryzok ?_; (iterate 2 refine rq rfl rfl rfl rfl rfl ?_); refine rg_nil ?_; show HW _ _ _ _ _
  (iterate 2 refine hw_seq ?_); refine hw_region (E := TryzE) Tryzok ?_; (iterate 2 refine rq rfl rfl rfl rfl rfl ?_); refine rc rfl rfl rfl rfl rfl rfl good41 (cRValid n l) (CoL.refl _) rfl rfl ?_; refine rq rfl rfl rfl rfl rfl ?_
  refine rg_nil ?_; show HW _ _ _ _ _; refine hw_seq ?_; refine hw_region (E := TryzE) Tryzok ?_; (iterate 2 refine rq rfl rfl rfl rfl rfl ?_); refine rg_nil ?_; show HW _ _ _ _ _; refine hw_cond _ rfl (fun r0 => ?_) (fun r0 => ?_)
  · skip
    have h0 := r0
    have h0 := of_decide_eq_false (not_t h0)
    try simp only [Int.toNat_natCast] at h0
    refine hw_seq ?_; refine hw_region (E := TryzE) Tryzok ?_; (iterate 3 refine rq rfl rfl rfl rfl rfl ?_); refine rg_nil ?_; show HW _ _ _ _ _; refine hw_ret ?_; refine ⟨.inr rfl, ?_⟩
    exact ⟨_, _, _, _, rfl, (by (repeat' apply And.intro) <;> first | trivial | exact Nat.le_of_ble_eq_true rfl | rfl), rfl, (by (repeat' apply And.intro) <;> first | trivial | exact Nat.le_of_ble_eq_true rfl | rfl), ⟨CoC.one (nilS (keysL_f h0)), CoC.refl _, trivial⟩⟩
  · skip
    have h0 := r0
    have h0 := of_decide_eq_true (not_f h0)
    try simp only [Int.toNat_natCast] at h0
    refine hw_skip ?_; show HW _ _ _ _ _; refine hw_seq ?_
    have hv0 := vErr_ok h0
    have hfn := full_n hv0.1 hv0.2.1
    refine hw_region (E := TryzE) Tryzok ?_; refine rq rfl rfl rfl rfl rfl ?_; refine rg_nil ?_; show HW _ _ _ _ _; (iterate 2 refine hw_seq ?_); refine hw_region (E := TryzE) Tryzok ?_; refine rq rfl rfl rfl rfl rfl ?_
    refine rg_nil ?_; show HW _ _ _ _ _; refine hw_block ?_; refine hw_adopt 7 900 true 1 30 (lf sC []) (by decide) rfl (CoP.sl rfl (.inr rfl) (fun h => h) (fun i j hi _ => absurd hi (Nat.not_lt_zero i))) (.inr rfl) rfl ?_
    refine hw_loopK (ι := Nat) ⟨[(0, some _), (1, some _)], []⟩ ⟨⟨⟨_, rfl, CoR.refl _⟩, ⟨_, rfl, CoR.refl _⟩, trivial⟩, trivial⟩ (fun i => ⟨[(7, some (.v (.one (.ref 900 (keysT n l i).length)))), (8, some (.v (.one (.p (.raw (.int .u32 (i : Int)))))))], [(900, some (.arr true 1 30 (keysT n l i).length (lf sC (keysT n l i))))]⟩) (fun i => i ≤ 2 ^ n.toNat) (fun i => 2 ^ n.toNat - i) (0) (Nat.zero_le _) ⟨⟨⟨_, rfl, (by first | exact CoR.refl _ | exact coi (by omega) | exact cob (by simp_all))⟩, ⟨_, rfl, (by first | exact CoR.refl _ | exact coi (by omega) | exact cob (by simp_all))⟩, trivial⟩, ⟨⟨_, rfl, CoO.refl _⟩, trivial⟩⟩ ?_
    rintro i hi
    have hlen := keysT_len n l i
    (iterate 2 refine hw_seq ?_); refine hw_region (E := TryzE) Tryzok ?_; (iterate 2 refine rq rfl rfl rfl rfl rfl ?_); refine rc rfl rfl rfl rfl rfl rfl good39 (cRFull n) (CoL.refl _) rfl rfl ?_; refine rq rfl rfl rfl rfl rfl ?_
    refine rg_nil ?_; show HW _ _ _ _ _; refine hw_cond _ rfl (fun r1 => ?_) (fun r1 => ?_)
    · skip
      have h1 := r1
      have h1 := of_decide_eq_true h1
      try simp only [Int.toNat_natCast] at h1
      refine hw_skip ?_; show HW _ _ _ _ _; refine hw_seq ?_; refine hw_block ?_; refine hw_seq ?_; refine hw_region (E := TryzE) Tryzok ?_; (iterate 3 refine rq rfl rfl rfl rfl rfl ?_)
      refine rc rfl rfl rfl rfl rfl rfl good42 (cRIsKey n l (BitVec.ofNat 32 i) h0) (⟨CoC.refl _, CoC.refl _, cci (set_u64 (by omega)), trivial⟩) rfl rfl ?_; refine rg_nil ?_; show HW _ _ _ _ _
      refine hw_cond _ rfl (fun r2 => ?_) (fun r2 => ?_)
      · skip
        have h2 := r2
        refine hw_region (E := TryzE) Tryzok ?_; (iterate 2 refine rq rfl rfl rfl rfl rfl ?_); refine rm 0 rfl rfl rfl rfl rfl rfl ?_; refine ra 1 true rfl rfl rfl rfl rfl rfl ?_; refine rq rfl rfl rfl rfl rfl ?_; refine rg_nil ?_
        show HW _ _ _ _ _; refine hw_region (E := TryzE) Tryzok ?_; (iterate 3 refine rq rfl rfl rfl rfl rfl ?_); refine rg_nil ?_
        first | (refine ⟨i + 1, ?_, ?_, ?_⟩
                 · show i + 1 ≤ _; omega
                 · first | omega | (dsimp only; omega)
                 · exact ⟨⟨⟨_, rfl, (ref_app (keysT_t (by assumption)))⟩, ⟨_, rfl, (by first | exact CoR.refl _ | exact coi (by omega) | exact cob (by simp_all))⟩, ⟨_, rfl, CoR.refl _⟩, ⟨_, rfl, CoR.refl _⟩, trivial⟩, ⟨⟨_, rfl, (arr_app1 (keysT_t (by assumption)) (CoP.of_eq (congrArg (fun z => PV.raw (.int .u32 z)) (set_u64 (by omega)))))⟩, trivial⟩⟩)
              | (refine ⟨i + 1, ?_, ?_, ?_⟩
                 · show i + 1 ≤ _; omega
                 · first | omega | (dsimp only; omega)
                 · exact ⟨⟨⟨_, rfl, (ref_same (keysT_f (by assumption)))⟩, ⟨_, rfl, (by first | exact CoR.refl _ | exact coi (by omega) | exact cob (by simp_all))⟩, ⟨_, rfl, CoR.refl _⟩, ⟨_, rfl, CoR.refl _⟩, trivial⟩, ⟨⟨_, rfl, (arr_same (keysT_f (by assumption)))⟩, trivial⟩⟩)
      · skip
        have h2 := r2
        refine hw_skip ?_; show HW _ _ _ _ _; refine hw_region (E := TryzE) Tryzok ?_; (iterate 3 refine rq rfl rfl rfl rfl rfl ?_); refine rg_nil ?_
        first | (refine ⟨i + 1, ?_, ?_, ?_⟩
                 · show i + 1 ≤ _; omega
                 · first | omega | (dsimp only; omega)
                 · exact ⟨⟨⟨_, rfl, (ref_app (keysT_t (by assumption)))⟩, ⟨_, rfl, (by first | exact CoR.refl _ | exact coi (by omega) | exact cob (by simp_all))⟩, ⟨_, rfl, CoR.refl _⟩, ⟨_, rfl, CoR.refl _⟩, trivial⟩, ⟨⟨_, rfl, (arr_app1 (keysT_t (by assumption)) (CoP.of_eq (congrArg (fun z => PV.raw (.int .u32 z)) (set_u64 (by omega)))))⟩, trivial⟩⟩)
              | (refine ⟨i + 1, ?_, ?_, ?_⟩
                 · show i + 1 ≤ _; omega
                 · first | omega | (dsimp only; omega)
                 · exact ⟨⟨⟨_, rfl, (ref_same (keysT_f (by assumption)))⟩, ⟨_, rfl, (by first | exact CoR.refl _ | exact coi (by omega) | exact cob (by simp_all))⟩, ⟨_, rfl, CoR.refl _⟩, ⟨_, rfl, CoR.refl _⟩, trivial⟩, ⟨⟨_, rfl, (arr_same (keysT_f (by assumption)))⟩, trivial⟩⟩)
    · skip
      have h1 := r1
      have h1 := of_decide_eq_false h1
      try simp only [Int.toNat_natCast] at h1
      obtain rfl : i = 2 ^ n.toNat := by omega
      refine hw_exit ?_; show HW _ _ _ _ _; refine hw_seq ?_; refine hw_freeze 7 rfl rfl rfl ?_; refine hw_region (E := TryzE) Tryzok ?_; refine rq rfl rfl rfl rfl rfl ?_
      refine rc rfl rfl rfl rfl rfl rfl good43 (cROrder (keysT n l (2 ^ n.toNat)) (by omega)) (CoL.refl _) rfl rfl ?_; (iterate 2 refine rq rfl rfl rfl rfl rfl ?_); refine rg_nil ?_; show HW _ _ _ _ _; refine hw_ret ?_
      refine ⟨.inr rfl, ?_⟩
      exact ⟨_, _, _, _, rfl, (by (repeat' apply And.intro) <;> first | trivial | exact Nat.le_of_ble_eq_true rfl | rfl), rfl, (by (repeat' apply And.intro) <;> first | trivial | exact Nat.le_of_ble_eq_true rfl | rfl), ⟨CoC.one (CoP.of_eq (by rw [keysL_t h0])), cci h0.symm, trivial⟩⟩
end Go.Hx
end
section
namespace Go.Hx
theorem mem_othersL {l : List Fd} {i : Nat} {x : Fd} (h : x ∈ othersL l i) : x ∈ l := by
  unfold othersL at h
  rcases List.mem_append.1 h with h | h
  · exact List.mem_of_mem_take h
  · exact List.mem_of_mem_drop h
theorem minE_len (n : Int) (l : List Fd) : (minE n l).length ≤ 2048 := by
  unfold minE
  split
  · rename_i h
    have h1 := (vErr_ok h).2.2.1
    have h2 := redAll_len l
    have h3 : (minS l).length ≤ (redAll l).length := by
      have : ∀ (f : Nat) (k : List Fd) (i : Nat), (dropR f k i).length ≤ k.length := by
        intro f
        induction f with
        | zero => intro k i; exact Nat.le_refl _
        | succ f ih =>
          intro k i
          unfold dropR
          split
          · rename_i hi
            split
            · exact Nat.le_trans (ih _ _) (by rw [othersL_len hi]; omega)
            · exact ih _ _
          · exact Nat.le_refl _
      exact this _ _ _
    omega
  · simp
end Go.Hx
end
section
namespace Go.Hx
def Eqv (l k : List Fd) : Prop := ∀ s, closedB l s ↔ closedB k s
theorem Eqv.refl (l : List Fd) : Eqv l l := fun s => Iff.rfl
theorem Eqv.trans {a b c : List Fd} (h : Eqv a b) (k : Eqv b c) : Eqv a c := fun s => (h s).trans (k s)
theorem Eqv.clo {l k : List Fd} (h : Eqv l k) (s : AS) : clo l s = clo k s :=
  sub_antisymm (clo_least ((h _).2 clo_isClosed) clo_ge) (clo_least ((h _).1 clo_isClosed) clo_ge)
theorem eqv_mem {l k : List Fd} (h : ∀ f, f ∈ l ↔ f ∈ k) : Eqv l k := fun s => ⟨fun hs f hf => hs f ((h f).2 hf), fun hs f hf => hs f ((h f).1 hf)⟩
theorem eqv_split (l : List Fd) : Eqv l (splitL l) := fun s => by
  constructor
  · intro hs g hg hgs
    unfold splitL at hg
    obtain ⟨ys, hys, hxy⟩ := List.mem_flatten.1 hg
    obtain ⟨f, hf, rfl⟩ := List.mem_map.1 hys
    unfold splitA at hxy
    obtain ⟨a, ha, rfl⟩ := List.mem_map.1 hxy
    have hr := hs f hf hgs
    refine sub_bit.2 fun i hi hb => ?_
    have h1 : ((1 : AS) <<< a).getLsbD i = decide (i = a) := bit_one a i hi
    rw [show (⟨f.lhs, (1 : AS) <<< a⟩ : Fd).rhs.getLsbD i = decide (i = a) from h1, decide_eq_true_iff] at hb
    subst hb
    have hm := (mem_membs.1 ha).2
    rw [BitVec.getLsbD_and, Bool.and_eq_true] at hm
    exact sub_bit.1 hr i hi hm.1
  · intro hs f hf hfs
    refine sub_bit.2 fun i hi hb => ?_
    by_cases hl : f.lhs.getLsbD i = true
    · exact sub_bit.1 hfs i hi hl
    · have hg : (⟨f.lhs, (1 : AS) <<< i⟩ : Fd) ∈ splitL l := by
        unfold splitL
        refine List.mem_flatten.2 ⟨splitA f, List.mem_map.2 ⟨f, hf, rfl⟩, ?_⟩
        unfold splitA
        refine List.mem_map.2 ⟨i, mem_membs.2 ⟨hi, ?_⟩, rfl⟩
        rw [BitVec.getLsbD_and, BitVec.getLsbD_not, decide_eq_true hi, hb]
        cases hq : f.lhs.getLsbD i with
        | true => exact absurd hq hl
        | false => rfl
      have h1 : ((1 : AS) <<< i).getLsbD i = decide (i = i) := bit_one i i hi
      exact sub_bit.1 (hs _ hg hfs) i hi (h1.trans (decide_eq_true rfl))
theorem imp_closed {l : List Fd} {f : Fd} (h : imp l f = true) {s : AS} (hs : closedB l s) (hf : sub f.lhs s) : sub f.rhs s :=
  sub_trans (of_decide_eq_true h) (clo_least hs hf)
theorem eqv_set {l : List Fd} {i : Nat} {g : Fd} (hg : imp l g = true) (h1 : sub g.lhs (l.getD i default).lhs) (h2 : g.rhs = (l.getD i default).rhs) : Eqv l (l.set i g) := fun s => by
  constructor
  · intro hs f hf hfs
    rcases List.mem_or_eq_of_mem_set hf with hf | rfl
    · exact hs f hf hfs
    · exact imp_closed hg hs hfs
  · intro hs f hf hfs
    obtain ⟨j, hj, rfl⟩ := List.getElem_of_mem hf
    by_cases e : i = j
    · subst e
      have hm : g ∈ l.set i g := List.mem_iff_getElem.2 ⟨i, by rw [List.length_set]; exact hj, by simp⟩
      rw [List.getD_eq_getElem?_getD, List.getElem?_eq_getElem hj, Option.getD_some] at h1 h2
      have := hs g hm (sub_trans h1 hfs)
      rwa [h2] at this
    · have hm : l[j] ∈ l.set i g := List.mem_iff_getElem.2 ⟨j, by rw [List.length_set]; exact hj, by rw [List.getElem_set_ne e]⟩
      exact hs _ hm hfs
theorem eqv_redA {i a : Nat} {l : List Fd} : Eqv l (redA i l a) := by
  unfold redA
  split
  · rename_i hc
    rw [Bool.and_eq_true] at hc
    exact eqv_set hc.2 sub_and_r rfl
  · exact Eqv.refl l
theorem eqv_foldA {i : Nat} : ∀ (m : List Nat) (l : List Fd), Eqv l (m.foldl (redA i) l)
  | [], l => Eqv.refl l
  | a :: m, l => eqv_redA.trans (eqv_foldA m _)
theorem eqv_redT (l : List Fd) : ∀ i, Eqv l (redT l i)
  | 0 => Eqv.refl l
  | i + 1 => by rw [redT_succ]; exact (eqv_redT l i).trans (eqv_foldA _ _)
theorem eqv_others {l : List Fd} {i : Nat} (h : redB l i = true) : Eqv l (othersL l i) := fun s => by
  constructor
  · intro hs f hf
    exact hs f (mem_othersL hf)
  · intro hs f hf hfs
    obtain ⟨j, hj, rfl⟩ := List.getElem_of_mem hf
    by_cases e : j = i
    · subst e
      unfold redB at h
      rw [List.getD_eq_getElem?_getD, List.getElem?_eq_getElem hj, Option.getD_some] at h
      exact imp_closed h hs hfs
    · refine hs _ ?_ hfs
      unfold othersL
      rw [List.mem_append]
      by_cases h2 : j < i
      · exact .inl (List.mem_take_iff_getElem.2 ⟨j, by omega, rfl⟩)
      · exact .inr (List.mem_drop_iff_getElem.2 ⟨j - (i + 1), by omega, by congr 1; omega⟩)
theorem eqv_dropR : ∀ (f : Nat) (l : List Fd) (i : Nat), Eqv l (dropR f l i)
  | 0, l, i => Eqv.refl l
  | f + 1, l, i => by
    unfold dropR
    split
    · split
      · rename_i h; exact (eqv_others h).trans (eqv_dropR f _ _)
      · exact eqv_dropR f _ _
    · exact Eqv.refl l
theorem eqv_min (l : List Fd) : Eqv l (minS l) := by
  refine Eqv.trans ?_ (eqv_dropR _ _ _)
  unfold redAll
  refine Eqv.trans ?_ (eqv_mem fun f => mem_onceL.symm); refine Eqv.trans ?_ (eqv_redT _ _)
  unfold spl
  exact (eqv_split l).trans (eqv_mem fun f => mem_onceL.symm)
theorem clo_min (l : List Fd) (s : AS) : clo (minS l) s = clo l s := ((eqv_min l).clo s).symm
end Go.Hx
end
section
namespace Go.Hx
def openP (l : List Fd) (ps : List AS) (t : AS) : Prop := ∀ p ∈ ps, sub (clo l (t &&& p) &&& p) t
theorem moreB_f {l : List Fd} {z p : AS} : moreB l z p = false ↔ sub (clo l (z &&& p) &&& p) z := by
  unfold moreB moreS sub
  rw [decide_eq_false_iff_not, Decidable.not_not, BitVec.and_comm p]
theorem and_mono {a b c : AS} (h : sub a b) : sub (a &&& c) (b &&& c) := sub_and_both (sub_trans sub_and_r h) sub_and_l
theorem folF_fix {l : List Fd} {ps : List AS} : ∀ (n : Nat) (z : AS), 4294967296 < n + z.toNat → openP l ps (folF l ps n z)
  | 0, z, h => by have := z.isLt; omega
  | n + 1, z, h => by
    unfold folF
    cases hf : ps.find? (moreB l z) with
    | none =>
      intro p hp
      have := List.find?_eq_none.1 hf p hp
      exact moreB_f.1 (by simpa using this)
    | some p =>
      have hm := List.find?_some hf
      have := moreS_lt hm
      exact folF_fix n _ (by omega)
theorem folF_ge {l : List Fd} {ps : List AS} : ∀ (n : Nat) (z : AS), sub z (folF l ps n z)
  | 0, z => sub_refl z
  | n + 1, z => by
    unfold folF
    cases hf : ps.find? (moreB l z) with
    | none => exact sub_refl z
    | some p => exact sub_trans sub_or_l (folF_ge n _)
theorem folF_le {l : List Fd} {ps : List AS} {t : AS} (ht : openP l ps t) : ∀ (n : Nat) (z : AS), sub z t → sub (folF l ps n z) t
  | 0, z, h => h
  | n + 1, z, h => by
    unfold folF
    cases hf : ps.find? (moreB l z) with
    | none => exact h
    | some p =>
      refine folF_le ht n _ (or_sub h ?_)
      have hp := List.mem_of_find?_eq_some hf
      refine sub_trans ?_ (ht p hp)
      unfold moreS
      refine sub_trans sub_and_r ?_
      rw [BitVec.and_comm]
      exact and_mono (clo_mono (and_mono h))
theorem kept_fix (l : List Fd) (ps : List AS) (z : AS) : openP l ps (kept l ps z) := folF_fix _ _ (by have := z.isLt; omega)
theorem kept_ge {l : List Fd} {ps : List AS} {z : AS} : sub z (kept l ps z) := folF_ge _ _
theorem kept_le {l : List Fd} {ps : List AS} {z t : AS} (ht : openP l ps t) (h : sub z t) : sub (kept l ps z) t := folF_le ht _ _ h
def pStep (l : List Fd) (s p : AS) : AS := s ||| (clo l (s &&& p) &&& p)
def pRound (l : List Fd) (ps : List AS) (s : AS) : AS := ps.foldl (pStep l) s
theorem pRound_ge {l : List Fd} : ∀ {ps : List AS} {s : AS}, sub s (pRound l ps s)
  | [], s => sub_refl s
  | p :: ps, s => sub_trans (sub_or_l (b := clo l (s &&& p) &&& p)) (pRound_ge (ps := ps))
theorem pRound_le {l : List Fd} {ps qs : List AS} {t : AS} (ht : openP l qs t) : ∀ {s : AS}, (∀ p ∈ ps, p ∈ qs) → sub s t → sub (pRound l ps s) t := by
  induction ps with
  | nil => intro s _ h; exact h
  | cons p ps ih =>
    intro s hp h
    exact ih (fun q hq => hp q (by simp [hq])) (or_sub h (sub_trans (and_mono (clo_mono (and_mono h))) (ht p (hp p (by simp)))))
theorem pRound_fix {l : List Fd} : ∀ {ps : List AS} {s : AS}, pRound l ps s = s → openP l ps s
  | [], s, h => fun p hp => by cases hp
  | p :: ps, s, h => by
    have h1 : sub (pStep l s p) s := by
      have := pRound_ge (l := l) (ps := ps) (s := pStep l s p)
      rw [show pRound l ps (pStep l s p) = s from h] at this
      exact this
    have h2 : pStep l s p = s := sub_antisymm h1 sub_or_l
    have h3 : pRound l ps s = s := by
      have h := h
      unfold pRound at h ⊢
      rw [List.foldl_cons, h2] at h
      exact h
    intro q hq
    rcases List.mem_cons.1 hq with rfl | hq
    · exact sub_trans sub_or_r h1
    · exact pRound_fix h3 q hq
theorem pRound_t {l : List Fd} {ps : List AS} {s : AS} {i : Nat} (hi : i < ps.length) : pRound l (ps.take (i + 1)) s = pStep l (pRound l (ps.take i) s) (ps.getD i default) := by
  unfold pRound
  rw [take_snoc hi, List.foldl_append]
  rfl
def PrI (l : List Fd) (ps : List AS) (z s : AS) : Prop := sub z s ∧ sub s (kept l ps z)
theorem pr_zero (l : List Fd) (ps : List AS) (z : AS) : PrI l ps z z := ⟨sub_refl z, kept_ge⟩
theorem pr_next {l : List Fd} {ps : List AS} {z s : AS} (h : PrI l ps z s) : PrI l ps z (pRound l ps s) := ⟨sub_trans h.1 pRound_ge, pRound_le (kept_fix l ps z) (fun _ h => h) h.2⟩
theorem pr_end {l : List Fd} {ps : List AS} {z s : AS} (h : PrI l ps z s) (he : pRound l ps s = s) : s = kept l ps z := sub_antisymm h.2 (kept_le (pRound_fix he) h.1)
theorem pr_less {l : List Fd} {ps : List AS} {s : AS} (h : ¬ pRound l ps s = s) : 4294967296 - (pRound l ps s).toNat < 4294967296 - s.toNat := by
  have h1 := sub_lt (pRound_ge (l := l) (ps := ps) (s := s)) (fun e => h e.symm)
  have h2 := (pRound l ps s).isLt
  omega
theorem pStep_v (l : List Fd) (s p : AS) : bitV .or .u32 (asI s) (bitV .and .u32 (asI (clo l (s &&& p))) (asI p)) = asI (pStep l s p) := by rw [bAnd, bOr]; rfl
theorem pr_res {l : List Fd} {ps : List AS} {f : Fd} {s : AS} (h : PrI l ps f.lhs s) (he : pRound l ps s = s) : decide (sub f.rhs s) = presB l ps f := by
  rw [pr_end h he]
  rfl
theorem kept_idem {l : List Fd} {ps : List AS} {z : AS} : kept l ps (kept l ps z) = kept l ps z := sub_antisymm (kept_le (kept_fix l ps z) (sub_refl _)) kept_ge
theorem kept_mono {l : List Fd} {ps : List AS} {a b : AS} (h : sub a b) : sub (kept l ps a) (kept l ps b) := kept_le (kept_fix l ps b) (sub_trans h kept_ge)
theorem kept_all {l m : List Fd} {ps : List AS} (h : ∀ f ∈ m, presB l ps f = true) (s : AS) : sub (clo m s) (kept l ps s) := by
  refine clo_least (fun f hf hfs => ?_) kept_ge
  have h1 : sub f.rhs (kept l ps f.lhs) := of_decide_eq_true (h f hf)
  refine sub_trans h1 ?_
  have := kept_mono (l := l) (ps := ps) hfs
  rw [kept_idem] at this
  exact this
theorem kept_from {l m k : List Fd} {ps : List AS} (h : ∀ f ∈ m, presB l ps f = true) (he : ∀ s, clo k s = clo m s) : ∀ f ∈ k, presB l ps f = true := fun f hf => by
  refine decide_eq_true ?_; refine sub_trans ?_ (kept_all h f.lhs)
  rw [← he]
  exact clo_isClosed f hf clo_ge
theorem allP_iff {l : List Fd} {ps : List AS} : allP l ps = true ↔ ∀ f ∈ l, presB l ps f = true := by
  unfold allP
  rw [List.all_eq_true]
  constructor
  · intro h f hf
    obtain ⟨j, hj, rfl⟩ := List.getElem_of_mem hf
    have := h j (List.mem_range.2 hj)
    rwa [List.getD_eq_getElem?_getD, List.getElem?_eq_getElem hj] at this
  · intro h j hj
    have hj := List.mem_range.1 hj
    rw [List.getD_eq_getElem?_getD, List.getElem?_eq_getElem hj]
    exact h _ (List.getElem_mem hj)
theorem allP_min {l : List Fd} {ps : List AS} : allP l ps = true ↔ ∀ f ∈ minS l, presB l ps f = true := by
  rw [allP_iff]
  exact ⟨fun h => kept_from h (fun s => clo_min l s), fun h => kept_from h (fun s => (clo_min l s).symm)⟩
theorem poss_obs {n : Int} {l : List Fd} (h : errS n l 8 = 0) : allP l (subF n l) = decide (obsE n l = 4) := by
  rw [Bool.eq_iff_iff, allP_min, decide_eq_true_iff]
  unfold obsE
  rw [if_pos h]
  unfold obsX
  rw [minE_t (errS_ok h).1]
  constructor
  · intro hh
    rw [List.find?_eq_none.2 fun f hf => by rw [hh f hf]; decide]
  · intro hh
    cases hf : (minS l).find? (fun f => !presB l (subF n l) f) with
    | some f => rw [hf] at hh; cases hh
    | none =>
      intro f hm
      have := List.find?_eq_none.1 hf f hm
      simpa using this
def sbfT (n : Int) (l : List Fd) (i : Nat) : List AS := ((subsC (fullI n)).take i).filter fun s => !violB l s
theorem sbfT_len (n : Int) (l : List Fd) (i : Nat) : (sbfT n l i).length ≤ 4294967296 := by
  unfold sbfT
  refine Nat.le_trans (List.length_filter_le _ _) ?_
  have := subsC_len (fullI n)
  rw [List.length_take]
  omega
theorem sbfT_t {n : Int} {l : List Fd} {i : Nat} (hi : i < (subsC (fullI n)).length) (h : (!violB l ((subsC (fullI n)).getD i default)) = true) : sbfT n l (i + 1) = sbfT n l i ++ [(subsC (fullI n)).getD i default] := by
  unfold sbfT
  rw [take_snoc hi, List.filter_append]
  simp only [List.filter_cons, h, if_true, List.filter_nil]
theorem sbfT_f {n : Int} {l : List Fd} {i : Nat} (hi : i < (subsC (fullI n)).length) (h : (!violB l ((subsC (fullI n)).getD i default)) = false) : sbfT n l (i + 1) = sbfT n l i := by
  unfold sbfT
  rw [take_snoc hi, List.filter_append]
  simp only [List.filter_cons, h, Bool.false_eq_true, if_false, List.filter_nil, List.append_nil]
theorem sbfT_end {n : Int} {l : List Fd} (h : errS n l 8 = 0) : sbfT n l (subsC (fullI n)).length = subF n l := by
  unfold sbfT
  rw [List.take_length, subF_t h]
theorem obs_2b {n : Int} {l : List Fd} (h : errS n l 8 = 0) (hI : ∀ j, j < (minE n l).length → (!presB l (subF n l) ((minE n l).getD j default)) = false) : obsF n l = ⟨0, 0⟩ ∧ obsE n l = 4 := by
  have e : obsX n l = none := find_f hI
  unfold obsF obsE
  rw [if_pos h, if_pos h, e]
  exact ⟨rfl, rfl⟩
end Go.Hx
end
