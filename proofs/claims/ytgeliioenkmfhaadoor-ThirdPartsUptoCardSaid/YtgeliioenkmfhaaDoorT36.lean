/- A part of the proof: lemmas for the theorem of this claim, merged by a program of ours out of Rb. -/
import Derived.Test.YtgeliioenkmfhaaDoorRows
import Derived.Test.YtgeliioenkmfhaaDoorT26
import Derived.Test.YtgeliioenkmfhaaDoorT28
set_option linter.all false
section
namespace Go.Hx
open Go.Proofs Go.Proofs.YtgeliioenkmfhaaDoor
open Go.RowKit Go.ChangeShapes Go.WideShapes Go.ChangeAt
section
variable {H : Type}
theorem blk_all {d : DataW H} {l : List (DataW H)} (h : d ∈ l) : Rows.uptoBulk d ≤ Rows.uptoBulkAll l := by
  induction l with
  | nil => cases h
  | cons x r ih =>
    rw [Rows.uptoBulkAll]
    rcases List.mem_cons.1 h with e | e
    · subst e; omega
    · have := ih e; omega
theorem blk_one (d : DataW H) : 1 ≤ Rows.uptoBulk d := by
  cases d with
  | lit l => cases l <;> simp [Rows.uptoBulk]
  | _ => simp [Rows.uptoBulk]
theorem blk_many (l : List (DataW H)) : l.length ≤ Rows.uptoBulkAll l := by
  induction l with
  | nil => simp
  | cons x r ih => have := blk_one x; rw [Rows.uptoBulkAll, List.length_cons]; omega
theorem blk_part {l r : List (DataW H)} {d : DataW H} (h : d ∈ l) : Rows.uptoBulk d ≤ Rows.uptoBulk (.slice l r) := by
  have := blk_all h
  rw [Rows.uptoBulk]; omega
theorem blk_agg {l : List (DataW H)} {d : DataW H} (h : d ∈ l) : Rows.uptoBulk d ≤ Rows.uptoBulk (.agg l) := by
  have := blk_all h
  rw [Rows.uptoBulk]; omega
theorem blk_len (l r : List (DataW H)) : l.length ≤ Rows.uptoBulk (.slice l r) := by
  have := blk_many l
  rw [Rows.uptoBulk]; omega
end
def RdB (P : Program) (t : TypeId) (n : Nat) {α : Type} (c : α → Nat → PV) (B : Nat → α → Prop) : Prop :=
  ∀ (H : Type) (enc : TypeId × Value → H) (w : World) (sp : Nat → Bool) (held : Bool) (fuel : Nat) (cs : List Value) (x : DataW H × List MemPlace), DataW.trod enc P w 0 sp held fuel t cs = some x →
    cs.length = n ∧ ∃ a : α, B (Rows.uptoBulk x.1) a ∧ ∀ j, j < n → ∃ v, cs[j]? = some v ∧ RepP (nowImm w) (c a j) v
section
variable {P : Program} {t e : TypeId}
theorem Rd.toB {n : Nat} {α : Type} {c : α → Nat → PV} (h : Rd P t n c) : RdB P t n c fun _ _ => True := by
  intro H enc w sp held fuel cs x hx
  obtain ⟨h1, a, h2⟩ := h _ enc w sp held fuel cs x hx
  exact ⟨h1, a, trivial, h2⟩
theorem RdB.co {n : Nat} {α β : Type} {c : α → Nat → PV} {c' : β → Nat → PV} {B : Nat → α → Prop} {B' : Nat → β → Prop} (h : RdB P t n c B) (f : α → β) (hB : ∀ b a, B b a → B' b (f a)) (hc : ∀ a j, j < n → CoP (c a j) (c' (f a) j)) : RdB P t n c' B' := by
  intro H enc w sp held fuel cs x hx
  obtain ⟨h1, a, h0, h2⟩ := h _ enc w sp held fuel cs x hx
  refine ⟨h1, f a, hB _ _ h0, fun j hj => ?_⟩
  obtain ⟨v, h3, h4⟩ := h2 j hj
  exact ⟨v, h3, hc a j hj _ _ h4⟩
theorem rdB_slice {s : Nat} {α : Type} [Inhabited α] {c : α → Nat → PV} {B : Nat → α → Prop} (mono : ∀ b b' x, b ≤ b' → B b x → B b' x) (ht : P.underlying t = some (.slice e)) (hc : P.cellsOf e = s) (hs : 0 < s) (h : RdB P e s c B) : RdB P t 1 (pslC s c) (fun b l => l.length ≤ b ∧ ∀ i, i < l.length → B b (l.getD i default)) := by
  classical
  intro H enc w sp held fuel cs x hx
  rcases DataW.trod_slice ht hx with ⟨rfl, _⟩ | ⟨a, len, cap, elems, rest, n, rfl, rfl, rfl, hb, hl, hm, hlen, hel, _, _⟩
  · refine ⟨rfl, [], ⟨Nat.zero_le _, fun i hi => absurd hi (Nat.not_lt_zero i)⟩, fun j hj => ?_⟩
    obtain rfl : j = 0 := by omega
    exact ⟨_, rfl, none, 0, rfl, Nat.le_refl _, Nat.zero_le _, (fun hh => by cases hh), fun hh => absurd hh (Nat.lt_irrefl 0)⟩
  · have each : ∀ i, i < len → ∃ q : α, B (Rows.uptoBulk (DataW.slice (elems.map (·.1)) (rest.map (·.1)))) q ∧ ∀ j, j < s → ∃ v, w.cell? (a.add (i * s + j)) = some v ∧ RepP (nowImm w) (c q j) v := by
      intro i hi
      have h1 := hel i hi
      rw [hc] at h1
      rw [List.getElem?_eq_getElem (by omega)] at h1
      obtain ⟨cs', h2, h3⟩ := Option.bind_eq_some_iff.1 h1
      obtain ⟨_, h4, h5⟩ := World.cells?_some h2
      obtain ⟨_, q, h9, h6⟩ := h _ enc w sp held n cs' _ h3
      refine ⟨q, mono _ _ q (blk_part (List.mem_map_of_mem (List.getElem_mem _))) h9, fun j hj => ?_⟩
      obtain ⟨v, h7, h8⟩ := h6 j hj
      refine ⟨v, ?_, h8⟩
      have := h5 j hj
      rw [h7] at this
      rw [← this]
      congr 1
      unfold Addr.add
      by_cases hj0 : j = 0
      · subst hj0
        simp
      · by_cases hi0 : i * s = 0
        · simp [hi0, hj0]
        · have : ¬ (i * s + j = 0) := by omega
          simp only [hj0, hi0, this, if_false]
          congr 1
          omega
    refine ⟨rfl, (List.range len).map fun i => if hi : i < len then Classical.choose (each i hi) else default, ⟨?_, fun i hi => ?_⟩, fun j hj => ?_⟩
    · rw [List.length_map, List.length_range, ← hlen]
      have := blk_len (elems.map (·.1)) (rest.map (·.1))
      rw [List.length_map] at this
      exact this
    · have hi : i < len := by simpa using hi
      have hch := (Classical.choose_spec (each i hi)).1
      have e : ((List.range len).map fun i => if hi : i < len then Classical.choose (each i hi) else default).getD i default = Classical.choose (each i hi) := by simp [List.getD, hi]
      rw [e]
      exact hch
    obtain rfl : j = 0 := by omega
    refine ⟨_, rfl, some a, cap, by simp, by simpa using hl, hm, (fun hh => by cases hh), fun hn => ?_⟩
    have hn : 0 < len := by simpa using hn
    have hspot : a.spot = none := by
      obtain ⟨q, _, hq⟩ := each 0 hn
      obtain ⟨v, hv, _⟩ := hq 0 hs
      have : a.add (0 * s + 0) = a := by simp [Addr.add]
      rw [this] at hv
      unfold World.cell? at hv
      split at hv
      · split at hv
        · cases hv
        · rename_i hsp
          simpa using hsp
      · cases hv
    refine ⟨a.block, a.off, ?_, fun i j hi hj => ?_⟩
    · obtain ⟨b, o, spo⟩ := a
      simp only at hspot
      subst hspot
      rfl
    · have hi : i < len := by simpa using hi
      have hch := (Classical.choose_spec (each i hi)).2
      obtain ⟨v, hv, hr⟩ := hch j hj
      refine ⟨v, ?_, ?_⟩
      · unfold World.cell? at hv
        have hblk : (a.add (i * s + j)).block = a.block := by unfold Addr.add; split <;> rfl
        have hoff : (a.add (i * s + j)).off = a.off + (i * s + j) := by
          unfold Addr.add
          split
          · rename_i h0; rw [h0]; rfl
          · rfl
        rw [hblk, hoff] at hv
        unfold cellIn nowImm
        split at hv
        · rename_i hb'
          rw [hb']
          split at hv
          · cases hv
          · exact hv
        · cases hv
      · have : lf c ((List.range len).map fun i => if hi : i < len then Classical.choose (each i hi) else default) i j = c (Classical.choose (each i hi)) j := by
          unfold lf
          simp [List.getD, hi]
        rw [this]
        exact hr
theorem rdB_fields {H : Type} {enc : TypeId × Value → H} {w : World} {sp : Nat → Bool} {held : Bool} {fuel : Nat} {cs : List Value} {x : DataW H × List MemPlace} {fs : Array Field} (ht : P.underlying t = some (.struct fs)) (h : DataW.trod enc P w 0 sp held fuel t cs = some x) :
    cs.length = P.cellsOf t ∧ ∃ n, ∀ (i : Nat) (f : Field), fs[i]? = some f → ∃ y, DataW.trod enc P w 0 sp held n f.type ((cs.drop f.offset).take (P.cellsOf f.type)) = some y ∧ Rows.uptoBulk y.1 ≤ Rows.uptoBulk x.1 := by
  obtain ⟨xs, n, _, rfl, h1, h2, h3⟩ := DataW.trod_struct ht h
  refine ⟨h1, n, fun i f hf => ?_⟩
  have := h3 i f hf
  rw [this]
  have hi : i < xs.length := by rw [h2]; exact (Array.getElem?_eq_some_iff.1 hf).1
  exact ⟨_, List.getElem?_eq_getElem hi, blk_agg (List.mem_map_of_mem (List.getElem_mem hi))⟩
theorem rdB_field {H : Type} {enc : TypeId × Value → H} {w : World} {sp : Nat → Bool} {held : Bool} {n off s b : Nat} {ft : TypeId} {cs : List Value} {y : DataW H × List MemPlace} {α : Type} {c : α → Nat → PV} {B : Nat → α → Prop} (mono : ∀ b b' x, b ≤ b' → B b x → B b' x) (h : RdB P ft s c B)
    (hy : DataW.trod enc P w 0 sp held n ft ((cs.drop off).take (P.cellsOf ft)) = some y ∧ Rows.uptoBulk y.1 ≤ b) :
    ∃ a : α, B b a ∧ ∀ j, j < s → ∃ v, cs[off + j]? = some v ∧ RepP (nowImm w) (c a j) v := by
  obtain ⟨h1, a, h0, h2⟩ := h _ enc w sp held n _ y hy.1
  refine ⟨a, mono _ _ a hy.2 h0, fun j hj => ?_⟩
  obtain ⟨v, h3, h4⟩ := h2 j hj
  refine ⟨v, ?_, h4⟩
  rw [List.getElem?_take] at h3
  split at h3
  · rwa [List.getElem?_drop] at h3
  · cases h3
end
theorem rd5 : Rd Tryd.prog 5 1 (fun (b : BitVec 8) _ => .raw (.int .u8 (b.toNat : Int))) := (rd_u8 Tryd.underlying5).co (fun u => u.toBitVec) fun a j hj => CoP.refl _
theorem rd94 : Rd Tryd.prog 94 2 Dp.c := by
  intro H enc w sp held fuel cs x h
  obtain ⟨hl, n, hf⟩ := rd_fields Tryd.underlying94 h
  obtain ⟨y0, e0⟩ := hf 0 _ rfl
  obtain ⟨y1, e1⟩ := hf 1 _ rfl
  obtain ⟨a0, h0⟩ := rd_field rd5 e0
  obtain ⟨a1, h1⟩ := rd_field rd5 e1
  refine ⟨hl.trans (by kernel_rfl), (⟨a0, a1⟩ : Dp), fun j hj => ?_⟩
  match j, hj with
  | 0, _ => exact h0 0 (by omega)
  | 1, _ => exact h1 0 (by omega)
theorem rb37 : RdB Tryd.prog 37 1 (pslC 2 Dp.c) fun b l => l.length ≤ b :=
  (rdB_slice (B := fun _ _ => True) (fun _ _ _ _ _ => trivial) Tryd.underlying37 (by kernel_rfl) (by omega) rd94.toB).co id (fun b a h => h.1) fun a j hj => CoP.refl _
theorem rb39 : RdB Tryd.prog 39 2 Dps.c fun b d => d.l.length ≤ b := by
  intro H enc w sp held fuel cs x h
  obtain ⟨hl, n, hf⟩ := rdB_fields Tryd.underlying39 h
  obtain ⟨y0, e0⟩ := hf 0 _ rfl
  obtain ⟨y1, e1⟩ := hf 1 _ rfl
  obtain ⟨a0, _, h0⟩ := rdB_field (fun _ _ _ _ _ => trivial) rd5.toB e0
  obtain ⟨a1, hb, h1⟩ := rdB_field (B := fun b (l : List Dp) => l.length ≤ b) (fun _ _ _ h k => Nat.le_trans k h) rb37 e1
  refine ⟨hl.trans (by kernel_rfl), (⟨a0, a1⟩ : Dps), hb, fun j hj => ?_⟩
  match j, hj with
  | 0, _ => exact h0 0 (by omega)
  | 1, _ => exact h1 0 (by omega)
theorem rb_deps {H : Type} {enc : TypeId × Value → H} {W : World} {cs : Array Value} {d : DataW H} {ps : List MemPlace} (hd : DataW.Trod enc Tryd.prog W 0 (fun _ => true) true 39 (.agg cs) d ps) : ∃ a : Dps, a.l.length ≤ Rows.uptoBulk d ∧ RepPC (nowImm W) a.pc (.agg cs) := by
  obtain ⟨fuel, hf⟩ := hd
  obtain ⟨hl, a, h0, ha⟩ := rb39 _ enc W _ _ fuel _ _ hf
  obtain ⟨u0, e0, r0⟩ := ha 0 (by omega)
  obtain ⟨u1, e1, r1⟩ := ha 1 (by omega)
  have hcs : cs.toList = [u0, u1] := by
    have hl : cs.toList.length = 2 := hl
    have e0 : cs.toList[0]? = some u0 := e0
    have e1 : cs.toList[1]? = some u1 := e1
    generalize cs.toList = l at *
    match l, hl with
    | [x, y], _ => simp at e0 e1; subst e0 e1; rfl
  refine ⟨a, h0, [u0, u1], ?_, r0, r1, trivial⟩
  rw [← hcs]
theorem par39 : Tryd.prog.readableRec 39 = true ∧ 39 < Tryd.prog.types.size := ⟨by kernel_rfl, of_decide_eq_true (by kernel_rfl)⟩
end Go.Hx
end
