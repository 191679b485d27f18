/- A part of the proof: lemmas for the theorem of this claim, merged by a program of ours out of LwZ, Hx26, X19. -/
import Derived.Deep.DeepHandedRow
import Derived.OpenShut
import Derived.ProofKit
import Derived.Test.YtididbpiikfaiaaDoorCards
import Derived.Test.YtididbpiikfaiaaDoorRows
import Derived.Test.YtididbpiikfaiaaDoorTie
import Derived.WalkKit
import Derived.Test.YtididbpiikfaiaaDoorE28
import Derived.Test.YtididbpiikfaiaaDoorE29
import Derived.Test.YtididbpiikfaiaaDoorE30
set_option linter.all false
section
namespace Go.Hx
open Go.Proofs Go.ChangeShapes Go.WideShapes Go.ChangeAt Go.RowKit
theorem own : ownKnob Tryd.prog.godebug = none := by kernel_rfl
theorem gTab : Tryd.prog.globalNamed "math/bits.deBruijn32tab" = some 0 := by kernel_rfl
theorem gTabType : (Tryd.prog.globals[0]?).map (·.type) = some 119 := by kernel_rfl
theorem cells119 : Tryd.prog.cellsOf 119 = 32 := by kernel_rfl
theorem cells5 : Tryd.prog.cellsOf 5 = 1 := by kernel_rfl
def tabZ : List Int := [0, 1, 28, 2, 29, 14, 24, 3, 30, 22, 20, 15, 25, 17, 4, 8, 31, 27, 13, 23, 21, 19, 16, 7, 26, 12, 18, 6, 11, 5, 10, 9]
theorem tabOk {W : World} (h : laidMetH Tryd.prog [("math/bits.deBruijn32tab", YtididbpiikfaiaaDoor.Rows.laid_math_bits_deBruijn32tab)] W) : TabOk (nowImm W) := by
  have ht : Lib.TabIs Tryd.prog W "math/bits.deBruijn32tab" .u8 tabZ := Lib.tabIs_of_head (rest := []) gTab gTabType Tryd.underlying119 Tryd.underlying5 cells5 cells119 h
  intro b off v hv
  unfold seatTab seatDat at hv
  split at hv
  · have hlt : off < 32 := by
      rcases Nat.lt_or_ge off 32 with h | h
      · exact h
      · rw [List.getElem?_eq_none (by simpa using h)] at hv; cases hv
    have hc := ht.cell gTab off hlt
    have e : v = .int .u8 (tabZ.getD off 0) := by
      have : (tabZ.map fun z => Value.int .u8 z)[off]? = some v := hv
      rw [List.getElem?_map] at this
      rw [List.getD_eq_getElem?_getD]
      cases hz : tabZ[off]? with
      | none => rw [hz] at this; cases this
      | some z => rw [hz] at this; exact (Option.some.inj this).symm
    rw [e]
    unfold World.cell? at hc
    unfold cellIn nowImm
    split at hc
    · rename_i c t fr hh
      rw [hh]
      simpa using hc
    · cases hc
  · cases hv
noncomputable def laidWorld (os : Os) : World :=
  { World.holding Tryd.prog os ⟨#[], #[], []⟩ with heap := (World.holding Tryd.prog os ⟨#[], #[], []⟩).heap.modify 0 fun
      | .cells _ t frozen => .cells (tabZ.map fun z => Value.int .u8 z).toArray t frozen
      | o => o }
end Go.Hx
end
section
namespace Go.Hx
open Go.Proofs Go.Proofs.YtididbpiikfaiaaDoor
open Go.RowKit Go.ChangeShapes Go.WideShapes Go.ChangeAt
section
variable {H : Type}
theorem blk_all {d : DataW H} {l : List (DataW H)} (h : d ∈ l) : Rows.uptoBulk d ≤ Rows.uptoBulkAll l := by
  induction l with
  | nil => cases h
  | cons x r ih =>
    rw [Rows.uptoBulkAll]
    rcases List.mem_cons.1 h with e | e
    · subst e; omega
    · have := ih e; omega
theorem blk_one (d : DataW H) : 1 ≤ Rows.uptoBulk d := by
  cases d with
  | lit l => cases l <;> simp [Rows.uptoBulk]
  | _ => simp [Rows.uptoBulk]
theorem blk_many (l : List (DataW H)) : l.length ≤ Rows.uptoBulkAll l := by
  induction l with
  | nil => simp
  | cons x r ih => have := blk_one x; rw [Rows.uptoBulkAll, List.length_cons]; omega
theorem blk_part {l r : List (DataW H)} {d : DataW H} (h : d ∈ l) : Rows.uptoBulk d ≤ Rows.uptoBulk (.slice l r) := by
  have := blk_all h
  rw [Rows.uptoBulk]; omega
theorem blk_agg {l : List (DataW H)} {d : DataW H} (h : d ∈ l) : Rows.uptoBulk d ≤ Rows.uptoBulk (.agg l) := by
  have := blk_all h
  rw [Rows.uptoBulk]; omega
theorem blk_len (l r : List (DataW H)) : l.length ≤ Rows.uptoBulk (.slice l r) := by
  have := blk_many l
  rw [Rows.uptoBulk]; omega
end
def RdB (P : Program) (t : TypeId) (n : Nat) {α : Type} (c : α → Nat → PV) (B : Nat → α → Prop) : Prop :=
  ∀ (H : Type) (enc : TypeId × Value → H) (w : World) (sp : Nat → Bool) (held : Bool) (fuel : Nat) (cs : List Value) (x : DataW H × List MemPlace), DataW.trod enc P w 0 sp held fuel t cs = some x →
    cs.length = n ∧ ∃ a : α, B (Rows.uptoBulk x.1) a ∧ ∀ j, j < n → ∃ v, cs[j]? = some v ∧ RepP (nowImm w) (c a j) v
section
variable {P : Program} {t e : TypeId}
theorem Rd.toB {n : Nat} {α : Type} {c : α → Nat → PV} (h : Rd P t n c) : RdB P t n c fun _ _ => True := by
  intro H enc w sp held fuel cs x hx
  obtain ⟨h1, a, h2⟩ := h _ enc w sp held fuel cs x hx
  exact ⟨h1, a, trivial, h2⟩
theorem RdB.co {n : Nat} {α β : Type} {c : α → Nat → PV} {c' : β → Nat → PV} {B : Nat → α → Prop} {B' : Nat → β → Prop} (h : RdB P t n c B) (f : α → β) (hB : ∀ b a, B b a → B' b (f a)) (hc : ∀ a j, j < n → CoP (c a j) (c' (f a) j)) : RdB P t n c' B' := by
  intro H enc w sp held fuel cs x hx
  obtain ⟨h1, a, h0, h2⟩ := h _ enc w sp held fuel cs x hx
  refine ⟨h1, f a, hB _ _ h0, fun j hj => ?_⟩
  obtain ⟨v, h3, h4⟩ := h2 j hj
  exact ⟨v, h3, hc a j hj _ _ h4⟩
theorem rdB_slice {s : Nat} {α : Type} [Inhabited α] {c : α → Nat → PV} {B : Nat → α → Prop} (mono : ∀ b b' x, b ≤ b' → B b x → B b' x) (ht : P.underlying t = some (.slice e)) (hc : P.cellsOf e = s) (hs : 0 < s) (h : RdB P e s c B) : RdB P t 1 (pslC s c) (fun b l => l.length ≤ b ∧ ∀ i, i < l.length → B b (l.getD i default)) := by
  classical
  intro H enc w sp held fuel cs x hx
  rcases DataW.trod_slice ht hx with ⟨rfl, _⟩ | ⟨a, len, cap, elems, rest, n, rfl, rfl, rfl, hb, hl, hm, hlen, hel, _, _⟩
  · refine ⟨rfl, [], ⟨Nat.zero_le _, fun i hi => absurd hi (Nat.not_lt_zero i)⟩, fun j hj => ?_⟩
    obtain rfl : j = 0 := by omega
    exact ⟨_, rfl, none, 0, rfl, Nat.le_refl _, Nat.zero_le _, (fun hh => by cases hh), fun hh => absurd hh (Nat.lt_irrefl 0)⟩
  · have each : ∀ i, i < len → ∃ q : α, B (Rows.uptoBulk (DataW.slice (elems.map (·.1)) (rest.map (·.1)))) q ∧ ∀ j, j < s → ∃ v, w.cell? (a.add (i * s + j)) = some v ∧ RepP (nowImm w) (c q j) v := by
      intro i hi
      have h1 := hel i hi
      rw [hc] at h1
      rw [List.getElem?_eq_getElem (by omega)] at h1
      obtain ⟨cs', h2, h3⟩ := Option.bind_eq_some_iff.1 h1
      obtain ⟨_, h4, h5⟩ := World.cells?_some h2
      obtain ⟨_, q, h9, h6⟩ := h _ enc w sp held n cs' _ h3
      refine ⟨q, mono _ _ q (blk_part (List.mem_map_of_mem (List.getElem_mem _))) h9, fun j hj => ?_⟩
      obtain ⟨v, h7, h8⟩ := h6 j hj
      refine ⟨v, ?_, h8⟩
      have := h5 j hj
      rw [h7] at this
      rw [← this]
      congr 1
      unfold Addr.add
      by_cases hj0 : j = 0
      · subst hj0
        simp
      · by_cases hi0 : i * s = 0
        · simp [hi0, hj0]
        · have : ¬ (i * s + j = 0) := by omega
          simp only [hj0, hi0, this, if_false]
          congr 1
          omega
    refine ⟨rfl, (List.range len).map fun i => if hi : i < len then Classical.choose (each i hi) else default, ⟨?_, fun i hi => ?_⟩, fun j hj => ?_⟩
    · rw [List.length_map, List.length_range, ← hlen]
      have := blk_len (elems.map (·.1)) (rest.map (·.1))
      rw [List.length_map] at this
      exact this
    · have hi : i < len := by simpa using hi
      have hch := (Classical.choose_spec (each i hi)).1
      have e : ((List.range len).map fun i => if hi : i < len then Classical.choose (each i hi) else default).getD i default = Classical.choose (each i hi) := by simp [List.getD, hi]
      rw [e]
      exact hch
    obtain rfl : j = 0 := by omega
    refine ⟨_, rfl, some a, cap, by simp, by simpa using hl, hm, (fun hh => by cases hh), fun hn => ?_⟩
    have hn : 0 < len := by simpa using hn
    have hspot : a.spot = none := by
      obtain ⟨q, _, hq⟩ := each 0 hn
      obtain ⟨v, hv, _⟩ := hq 0 hs
      have : a.add (0 * s + 0) = a := by simp [Addr.add]
      rw [this] at hv
      unfold World.cell? at hv
      split at hv
      · split at hv
        · cases hv
        · rename_i hsp
          simpa using hsp
      · cases hv
    refine ⟨a.block, a.off, ?_, fun i j hi hj => ?_⟩
    · obtain ⟨b, o, spo⟩ := a
      simp only at hspot
      subst hspot
      rfl
    · have hi : i < len := by simpa using hi
      have hch := (Classical.choose_spec (each i hi)).2
      obtain ⟨v, hv, hr⟩ := hch j hj
      refine ⟨v, ?_, ?_⟩
      · unfold World.cell? at hv
        have hblk : (a.add (i * s + j)).block = a.block := by unfold Addr.add; split <;> rfl
        have hoff : (a.add (i * s + j)).off = a.off + (i * s + j) := by
          unfold Addr.add
          split
          · rename_i h0; rw [h0]; rfl
          · rfl
        rw [hblk, hoff] at hv
        unfold cellIn nowImm
        split at hv
        · rename_i hb'
          rw [hb']
          split at hv
          · cases hv
          · exact hv
        · cases hv
      · have : lf c ((List.range len).map fun i => if hi : i < len then Classical.choose (each i hi) else default) i j = c (Classical.choose (each i hi)) j := by
          unfold lf
          simp [List.getD, hi]
        rw [this]
        exact hr
theorem rdB_fields {H : Type} {enc : TypeId × Value → H} {w : World} {sp : Nat → Bool} {held : Bool} {fuel : Nat} {cs : List Value} {x : DataW H × List MemPlace} {fs : Array Field} (ht : P.underlying t = some (.struct fs)) (h : DataW.trod enc P w 0 sp held fuel t cs = some x) :
    cs.length = P.cellsOf t ∧ ∃ n, ∀ (i : Nat) (f : Field), fs[i]? = some f → ∃ y, DataW.trod enc P w 0 sp held n f.type ((cs.drop f.offset).take (P.cellsOf f.type)) = some y ∧ Rows.uptoBulk y.1 ≤ Rows.uptoBulk x.1 := by
  obtain ⟨xs, n, _, rfl, h1, h2, h3⟩ := DataW.trod_struct ht h
  refine ⟨h1, n, fun i f hf => ?_⟩
  have := h3 i f hf
  rw [this]
  have hi : i < xs.length := by rw [h2]; exact (Array.getElem?_eq_some_iff.1 hf).1
  exact ⟨_, List.getElem?_eq_getElem hi, blk_agg (List.mem_map_of_mem (List.getElem_mem hi))⟩
theorem rdB_field {H : Type} {enc : TypeId × Value → H} {w : World} {sp : Nat → Bool} {held : Bool} {n off s b : Nat} {ft : TypeId} {cs : List Value} {y : DataW H × List MemPlace} {α : Type} {c : α → Nat → PV} {B : Nat → α → Prop} (mono : ∀ b b' x, b ≤ b' → B b x → B b' x) (h : RdB P ft s c B)
    (hy : DataW.trod enc P w 0 sp held n ft ((cs.drop off).take (P.cellsOf ft)) = some y ∧ Rows.uptoBulk y.1 ≤ b) :
    ∃ a : α, B b a ∧ ∀ j, j < s → ∃ v, cs[off + j]? = some v ∧ RepP (nowImm w) (c a j) v := by
  obtain ⟨h1, a, h0, h2⟩ := h _ enc w sp held n _ y hy.1
  refine ⟨a, mono _ _ a hy.2 h0, fun j hj => ?_⟩
  obtain ⟨v, h3, h4⟩ := h2 j hj
  refine ⟨v, ?_, h4⟩
  rw [List.getElem?_take] at h3
  split at h3
  · rwa [List.getElem?_drop] at h3
  · cases h3
theorem rdB_arg {H : Type} {enc : TypeId × Value → H} {W : World} {v : Value} {d : DataW H} {ps : List MemPlace} {α : Type} {c : α → Nat → PV} {B : Nat → α → Prop} (h : RdB P t 1 c B) (hc : v.cells.toList = [v]) (hd : DataW.Trod enc P W 0 (fun _ => true) true t v d ps) : ∃ a : α, B (Rows.uptoBulk d) a ∧ RepP (nowImm W) (c a 0) v := by
  obtain ⟨fuel, hf⟩ := hd
  obtain ⟨_, a, h0, ha⟩ := h _ enc W _ _ fuel _ _ hf
  obtain ⟨u, hu, hr⟩ := ha 0 (by omega)
  rw [hc] at hu
  simp only [List.getElem?_cons_zero, Option.some.injEq] at hu
  subst hu
  exact ⟨a, h0, hr⟩
end
section
variable {P : Program} {t e : TypeId}
theorem rdB_elem {H : Type} {enc : TypeId × Value → H} {w : World} {sp : Nat → Bool} {held : Bool} {fuel : Nat} {cs : List Value} {x : DataW H × List MemPlace} {k : Nat} (ht : P.underlying t = some (.array k e)) (h : DataW.trod enc P w 0 sp held fuel t cs = some x) :
    cs.length = P.cellsOf t ∧ ∃ n, ∀ i, i < k → ∃ y, DataW.trod enc P w 0 sp held n e ((cs.drop (i * P.cellsOf e)).take (P.cellsOf e)) = some y ∧ Rows.uptoBulk y.1 ≤ Rows.uptoBulk x.1 := by
  obtain ⟨xs, n, _, rfl, h1, h2, h3⟩ := DataW.trod_array ht h
  refine ⟨h1, n, fun i hi => ?_⟩
  have := h3 i hi
  rw [this]
  have hi : i < xs.length := by omega
  exact ⟨_, List.getElem?_eq_getElem hi, blk_agg (List.mem_map_of_mem (List.getElem_mem hi))⟩
theorem okWide_arr {n : Nat} {W : World} {r : Reach} {b : Nat} {v : Value} (ht : P.underlying t = some (.array n e)) (h : Value.okWide P W r b t v) : ∃ cs, v = .agg cs := by
  unfold Value.okWide at h
  rw [ht] at h
  obtain ⟨cs, h1, _⟩ := h
  exact ⟨cs, h1⟩
theorem repPL_of {m : Imm} {c : Nat → PV} : ∀ {n : Nat} {us : List Value} {k : Nat}, us.length = n → (∀ j, j < n → ∃ v, us[j]? = some v ∧ RepP m (c (k + j)) v) → RepPL m ((List.range' k n).map c) us
  | 0, [], _, _, _ => trivial
  | n + 1, u :: us, k, hl, h => by
    obtain ⟨v, h1, h2⟩ := h 0 (by omega)
    simp only [List.getElem?_cons_zero, Option.some.injEq] at h1
    subst h1
    refine ⟨h2, repPL_of (n := n) (k := k + 1) (by simpa using hl) fun j hj => ?_⟩
    obtain ⟨v, h3, h4⟩ := h (j + 1) (by omega)
    refine ⟨v, by simpa using h3, ?_⟩
    rwa [show k + 1 + j = k + (j + 1) by omega]
  | 0, _ :: _, _, h, _ => by cases h
  | _ + 1, [], _, h, _ => by cases h
theorem rdB_agg {H : Type} {enc : TypeId × Value → H} {W : World} {cs : Array Value} {d : DataW H} {ps : List MemPlace} {n : Nat} {α : Type} {c : α → Nat → PV} {B : Nat → α → Prop} (h : RdB P t n c B) (hd : DataW.Trod enc P W 0 (fun _ => true) true t (.agg cs) d ps) :
    ∃ a : α, B (Rows.uptoBulk d) a ∧ RepPC (nowImm W) (.agg ((List.range' 0 n).map (c a))) (.agg cs) := by
  obtain ⟨fuel, hf⟩ := hd
  obtain ⟨hl, a, h0, ha⟩ := h _ enc W _ _ fuel _ _ hf
  refine ⟨a, h0, cs.toList, by simp, repPL_of hl fun j hj => ?_⟩
  rw [Nat.zero_add]
  exact ha j hj
end
end Go.Hx
end
section
namespace Go.Hx
open Go.Proofs
set_option maxRecDepth 100000
theorem good12 : goodFn Tryd.prog 12 := ⟨Tryd.f12, Tryd.func12, by kernel_rfl, by kernel_rfl⟩
theorem cFew14 (n : Int) (l : List Rw) : HPure Tryd.prog 12 [pT n l] (prOf [pB (decide (l.length ≤ 8 ∧ ∀ i, i < l.length → (l.getD i default).length ≤ 20))]) := by
  refine hpure_of (nt := 20) Trydok Tryd.func12 rfl rfl (Nat.le_of_ble_eq_true rfl) ?_; refine hw_seq ?_; refine hw_region (E := TrydE) Trydok ?_; refine rm 0 rfl rfl rfl rfl rfl rfl ?_; refine rq rfl rfl rfl rfl rfl ?_
  refine rg_nil ?_; show HW _ _ _ _ _
  refine hw_joinK (ι := Unit) ⟨[(1, some _)], [(0, some _)]⟩ ⟨⟨⟨_, rfl, CoR.refl _⟩, trivial⟩, ⟨⟨_, rfl, CoO.refl _⟩, trivial⟩⟩ (fun _i => ⟨[], []⟩) (fun _i => ∀ i, i < l.length → (l.getD i default).length ≤ 20) ?_ ?_
  · skip
    refine hw_seq ?_
    refine hw_bo 0 1 rfl rfl fun hn => ?_
    refine hw_region (E := TrydE) Trydok ?_; (iterate 4 refine rq rfl rfl rfl rfl rfl ?_); refine rg_nil ?_; show HW _ _ _ _ _; refine hw_block ?_
    refine hw_loopK (ι := Nat) ⟨[(1, some _), (6, some _), (7, some _)], [(0, some _)]⟩ ⟨⟨⟨_, rfl, CoR.refl _⟩, ⟨_, rfl, CoR.refl _⟩, ⟨_, rfl, CoR.refl _⟩, trivial⟩, ⟨⟨_, rfl, CoO.refl _⟩, trivial⟩⟩ (fun i => ⟨[(8, some (vI i))], []⟩) (fun i => i ≤ l.length ∧ (∀ j, j < i → (l.getD j default).length ≤ 20)) (fun i => l.length - i) (0) (⟨Nat.zero_le _, all_zero⟩) ⟨⟨⟨_, rfl, (by first | exact CoR.refl _ | exact coi (by omega) | exact cob (by simp_all))⟩, trivial⟩, trivial⟩ ?_
    rintro i ⟨hi, hI⟩
    refine hw_seq ?_; refine hw_region (E := TrydE) Trydok ?_; refine rq rfl rfl rfl rfl rfl ?_; refine rg_nil ?_; show HW _ _ _ _ _; refine hw_seq ?_; refine hw_cond _ rfl (fun r0 => ?_) (fun r0 => ?_)
    · skip
      have h0 := r0
      have h0 := of_decide_eq_true h0
      try simp only [Int.toNat_natCast] at h0
      refine hw_skip ?_; show HW _ _ _ _ _; refine hw_seq ?_; refine hw_block ?_; refine hw_seq ?_; refine hw_region (E := TrydE) Trydok ?_; (iterate 3 refine rq rfl rfl rfl rfl rfl ?_); refine rg_nil ?_; show HW _ _ _ _ _
      refine hw_seq ?_; refine hw_region (E := TrydE) Trydok ?_; (iterate 3 refine rq rfl rfl rfl rfl rfl ?_); refine rg_nil ?_; show HW _ _ _ _ _; refine hw_cond _ rfl (fun r1 => ?_) (fun r1 => ?_)
      · skip
        have h1 := r1
        have h1 := of_decide_eq_true h1
        try simp only [Int.toNat_natCast] at h1
        refine hw_seq ?_; refine hw_region (E := TrydE) Trydok ?_; refine rq rfl rfl rfl rfl rfl ?_; refine rg_nil ?_; show HW _ _ _ _ _; refine hw_ret ?_; refine ⟨.inr rfl, ?_⟩
        exact ⟨_, _, _, _, rfl, (by (repeat' apply And.intro) <;> first | trivial | exact Nat.le_of_ble_eq_true rfl | rfl), rfl, (by (repeat' apply And.intro) <;> first | trivial | exact Nat.le_of_ble_eq_true rfl | rfl), ⟨ccb (decide_eq_false fun e => by have := e.2 i (by omega); omega).symm, trivial⟩⟩
      · skip
        have h1 := r1
        have h1 := of_decide_eq_false h1
        try simp only [Int.toNat_natCast] at h1
        refine hw_skip ?_; show HW _ _ _ _ _; refine hw_region (E := TrydE) Trydok ?_; (iterate 2 refine rq rfl rfl rfl rfl rfl ?_); refine rg_nil ?_; refine ⟨i + 1, ?_, ?_, ?_⟩
        · exact ⟨by show i + 1 ≤ _; omega, all_succ hI (by omega)⟩
        · first | omega | (dsimp only; omega)
        · exact ⟨⟨⟨_, rfl, (by first | exact CoR.refl _ | exact coi (by omega) | exact cob (by simp_all))⟩, ⟨_, rfl, CoR.refl _⟩, ⟨_, rfl, CoR.refl _⟩, ⟨_, rfl, CoR.refl _⟩, trivial⟩, ⟨⟨_, rfl, CoO.refl _⟩, trivial⟩⟩
    · skip
      have h0 := r0
      have h0 := of_decide_eq_false h0
      try simp only [Int.toNat_natCast] at h0
      refine hw_exit ?_; refine ⟨(), ?_, ?_⟩
      · exact fun j hj => hI j (by omega)
      · exact ⟨⟨⟨_, rfl, CoR.refl _⟩, trivial⟩, ⟨⟨_, rfl, CoO.refl _⟩, trivial⟩⟩
  · rintro _ hj
    refine hw_seq ?_; refine hw_region (E := TrydE) Trydok ?_; (iterate 5 refine rq rfl rfl rfl rfl rfl ?_); refine rg_nil ?_; show HW _ _ _ _ _; refine hw_ret ?_; refine ⟨.inr rfl, ?_⟩
    exact ⟨_, _, _, _, rfl, (by (repeat' apply And.intro) <;> first | trivial | exact Nat.le_of_ble_eq_true rfl | rfl), rfl, (by (repeat' apply And.intro) <;> first | trivial | exact Nat.le_of_ble_eq_true rfl | rfl), ⟨ccb (decide_eq_decide.2 ⟨fun h => ⟨by omega, hj⟩, fun h => by omega⟩), trivial⟩⟩
end Go.Hx
end
