/- A part of the proof: lemmas for the theorem of this claim, merged by a program of ours out of Cs12, V10, Cs13. -/
import Derived.Test.YtgeliioenkmfhaaGreatDoorZ22
set_option linter.all false
section
namespace Go.Hx
theorem co_takeI {α : Type} [Inhabited α] {s n k' : Nat} {k : Int} {cl : Bool} {c : α → Nat → PV} {l : List α} (h : k.toNat = k') (hk : k' ≤ l.length) :
    CoP (.sl (less (upTo n (some k)) none) s cl (from_ (lf c l) none)) (psl s c (l.take k')) := by
  subst h; exact co_take hk
theorem co_dropI {α : Type} [Inhabited α] {s n k' : Nat} {k : Int} {cl : Bool} {c : α → Nat → PV} {l : List α} (hn : n = l.length) (h : k.toNat = k') : CoP (.sl (less n (some k)) s cl (from_ (lf c l) (some k))) (psl s c (l.drop k')) := by
  subst h hn; exact co_drop
theorem oth_flat {l : List Fd} {i : Nat} : [l.take i, l.drop (i + 1)].flatten = othersL l i := by simp [othersL]
theorem oth_len {l : List Fd} {i : Nat} (hi : i < l.length) (hl : l.length ≤ 16777216) : [l.take i, l.drop (i + 1)].flatten.length ≤ 16777216 := by
  rw [oth_flat, othersL_len hi]
  omega
theorem ex_co {x : Fd} {b : Int} {s : AS} (h : b = asI s) : CoC (.agg [.raw (.int .u32 b), .raw (.int .u32 (asI x.rhs))]) (Fd.pc ⟨s, x.rhs⟩) := by
  subst h
  exact CoC.refl _
theorem oth_co {l : List Fd} {i : Nat} (hi : i < l.length) {f0 : Nat → Nat → PV} : CoP (.sl (0 + less (upTo l.length (some (i : Int))) none + less (upTo l.length none) (some ((i : Int) + 1))) 2 false
    (appF (0 + less (upTo l.length (some (i : Int))) none) (appF 0 f0 (from_ (lf Fd.c l) none)) (from_ (lf Fd.c l) (some ((i : Int) + 1))))) (fdl (othersL l i)) := by
  have e1 : less (upTo l.length (some (i : Int))) none = i := by simp [less, upTo]
  have e2 : less (upTo l.length none) (some ((i : Int) + 1)) = l.length - (i + 1) := by simp only [less, upTo]; omega
  rw [e1, e2]
  refine CoP.sl (by rw [othersL_len hi]; omega) (.inl rfl) (fun h => by cases h) fun a j ha hj => CoP.of_eq ?_
  unfold appF othersL
  rw [Nat.zero_add]
  by_cases h : a < i
  · rw [if_pos h, if_neg (by omega), Nat.sub_zero]
    simp only [lf, List.getD_eq_getElem?_getD]
    rw [List.getElem?_append_left (by rw [List.length_take]; omega), List.getElem?_take, if_pos h]
    rfl
  · rw [if_neg h]
    simp only [lf, List.getD_eq_getElem?_getD]
    rw [List.getElem?_append_right (by rw [List.length_take]; omega), List.length_take, List.getElem?_drop, Nat.min_eq_left (by omega)]
    show Fd.c ((l[((i : Int) + 1).toNat + (a - i)]?).getD default) j = _
    congr 4
end Go.Hx
end
section
namespace Go.Hx
open Go.Proofs
set_option maxRecDepth 100000
def rwC (l : List Fd) : Nat → PV
  | 0 => fdl l
  | _ => .any
abbrev rwss (ls : List (List Fd)) : PV := psl 1 rwC ls
theorem good99 : goodFn Tryz.prog 99 := ⟨Tryz.f99, Tryz.func99, by kernel_rfl, by kernel_rfl⟩
theorem good90 : goodFn Tryz.prog 90 := ⟨Tryz.f90, Tryz.func90, by kernel_rfl, by kernel_rfl⟩
theorem cConcat (ls : List (List Fd)) (h : ls.flatten.length ≤ 16777216) : HPure Tryz.prog 90 [pP (rwss ls)] (prOf [pP (fdl ls.flatten)]) := by
  refine hpure_of (nt := 36) Tryzok Tryz.func90 rfl rfl (Nat.le_of_ble_eq_true rfl) ?_; refine hw_seq ?_; refine hw_region (E := TryzE) Tryzok ?_; refine rq rfl rfl rfl rfl rfl ?_; refine rg_nil ?_; show HW _ _ _ _ _
  refine hw_seq ?_; refine hw_region (E := TryzE) Tryzok ?_; refine rq rfl rfl rfl rfl rfl ?_; refine rg_nil ?_; show HW _ _ _ _ _; (iterate 2 refine hw_seq ?_); refine hw_bt 0 rfl (fun hn => ?_)
  refine hw_region (E := TryzE) Tryzok ?_; (iterate 3 refine rq rfl rfl rfl rfl rfl ?_); refine rg_nil ?_; show HW _ _ _ _ _; refine hw_block ?_
  refine hw_loopK (ι := Nat) ⟨[(0, some _), (9, some _), (10, some _)], []⟩ ⟨⟨⟨_, rfl, CoR.refl _⟩, ⟨_, rfl, CoR.refl _⟩, ⟨_, rfl, CoR.refl _⟩, trivial⟩, trivial⟩ (fun i => ⟨[(3, some (vI (ls.take i).flatten.length)), (11, some (vI i))], []⟩) (fun i => i ≤ ls.length) (fun i => ls.length - i) (0) (Nat.zero_le _) ⟨⟨⟨_, rfl, (by first | exact CoR.refl _ | exact coi (by omega) | exact cob (by simp_all))⟩, ⟨_, rfl, (by first | exact CoR.refl _ | exact coi (by omega) | exact cob (by simp_all))⟩, trivial⟩, trivial⟩ ?_
  rintro i hi
  refine hw_seq ?_; refine hw_region (E := TryzE) Tryzok ?_; refine rq rfl rfl rfl rfl rfl ?_; refine rg_nil ?_; show HW _ _ _ _ _; refine hw_seq ?_; refine hw_cond _ rfl (fun r0 => ?_) (fun r0 => ?_)
  · skip
    have h0 := r0
    have h0 := of_decide_eq_true h0
    try simp only [Int.toNat_natCast] at h0
    have hts : (ls.take (i + 1)).flatten.length = (ls.take i).flatten.length + (ls.getD ((i : Nat) : Int).toNat default).length := by rw [tsf _ _ (by omega), List.length_append]; rfl
    have hfl : (ls.take i).flatten.length + (ls.getD ((i : Nat) : Int).toNat default).length ≤ ls.flatten.length := flat_take_le ls i (by omega)
    refine hw_skip ?_; show HW _ _ _ _ _; refine hw_seq ?_; refine hw_block ?_; refine hw_seq ?_; refine hw_region (E := TryzE) Tryzok ?_; (iterate 3 refine rq rfl rfl rfl rfl rfl ?_); refine rg_nil ?_; show HW _ _ _ _ _
    refine hw_seq ?_; refine hw_region (E := TryzE) Tryzok ?_; (iterate 5 refine rq rfl rfl rfl rfl rfl ?_); refine rg_nil ?_; show HW _ _ _ _ _; refine hw_seq ?_; refine hw_region (E := TryzE) Tryzok ?_
    (iterate 2 refine rq rfl rfl rfl rfl rfl ?_); refine rg_nil ?_; show HW _ _ _ _ _; refine hw_cond _ rfl (fun r1 => ?_) (fun r1 => ?_)
    · skip
      have h1 := r1
      have h1 := of_decide_eq_true h1
      try simp only [Int.toNat_natCast] at h1
      exfalso
      omega
    · skip
      have h1 := r1
      have h1 := of_decide_eq_false h1
      try simp only [Int.toNat_natCast] at h1
      refine hw_skip ?_; show HW _ _ _ _ _; refine hw_region (E := TryzE) Tryzok ?_; (iterate 2 refine rq rfl rfl rfl rfl rfl ?_); refine rg_nil ?_; refine ⟨i + 1, ?_, ?_, ?_⟩
      · show i + 1 ≤ _
        omega
      · first | omega | (dsimp only; omega)
      · exact ⟨⟨⟨_, rfl, (by first | exact CoR.refl _ | exact coi (by omega) | exact cob (by simp_all))⟩, ⟨_, rfl, (by first | exact CoR.refl _ | exact coi (by omega) | exact cob (by simp_all))⟩, ⟨_, rfl, CoR.refl _⟩, ⟨_, rfl, CoR.refl _⟩, ⟨_, rfl, CoR.refl _⟩, trivial⟩, trivial⟩
  · skip
    have h0 := r0
    have h0 := of_decide_eq_false h0
    try simp only [Int.toNat_natCast] at h0
    obtain rfl : i = ls.length := by omega
    have hfe : (ls.take ls.length).flatten.length = ls.flatten.length := by rw [List.take_length]
    refine hw_exit ?_; show HW _ _ _ _ _; refine hw_seq ?_; refine hw_region (E := TryzE) Tryzok ?_; refine rq rfl rfl rfl rfl rfl ?_
    refine rg_fcall rfl rfl rfl rfl rfl rfl good99 (c139h (ls.take ls.length).flatten.length 900 (by omega) (lf Fd.c [])) (CoHCL.refl _) trivial rfl rfl ?_; refine rq rfl rfl rfl rfl rfl ?_; refine rg_nil ?_; show HW _ _ _ _ _
    (iterate 2 refine hw_seq ?_); refine hw_region (E := TryzE) Tryzok ?_; (iterate 3 refine rq rfl rfl rfl rfl rfl ?_); refine rg_nil ?_; show HW _ _ _ _ _; refine hw_block ?_
    refine hw_loopK (ι := Nat) ⟨[(25, some _), (26, some _)], []⟩ ⟨⟨⟨_, rfl, CoR.refl _⟩, ⟨_, rfl, CoR.refl _⟩, trivial⟩, trivial⟩ (fun i => ⟨[(6, some (.v (.one (.ref 900 (ls.take i).flatten.length)))), (27, some (vI i))], [(900, some (.arr true 2 32 (ls.take i).flatten.length (lf Fd.c (ls.take i).flatten)))]⟩) (fun i => i ≤ ls.length) (fun i => ls.length - i) (0) (Nat.zero_le _) ⟨⟨⟨_, rfl, (by first | exact CoR.refl _ | exact coi (by omega) | exact cob (by simp_all))⟩, ⟨_, rfl, (by first | exact CoR.refl _ | exact coi (by omega) | exact cob (by simp_all))⟩, trivial⟩, ⟨⟨_, rfl, CoO.refl _⟩, trivial⟩⟩ ?_
    rintro i hi
    refine hw_seq ?_; refine hw_region (E := TryzE) Tryzok ?_; refine rq rfl rfl rfl rfl rfl ?_; refine rg_nil ?_; show HW _ _ _ _ _; refine hw_seq ?_; refine hw_cond _ rfl (fun r2 => ?_) (fun r2 => ?_)
    · skip
      have h2 := r2
      have h2 := of_decide_eq_true h2
      try simp only [Int.toNat_natCast] at h2
      have hts : (ls.take (i + 1)).flatten.length = (ls.take i).flatten.length + (ls.getD ((i : Nat) : Int).toNat default).length := by rw [tsf _ _ (by omega), List.length_append]; rfl
      have hfl : (ls.take i).flatten.length + (ls.getD ((i : Nat) : Int).toNat default).length ≤ ls.flatten.length := flat_take_le ls i (by omega)
      refine hw_skip ?_; show HW _ _ _ _ _; refine hw_seq ?_; refine hw_block ?_; refine hw_seq ?_; refine hw_region (E := TryzE) Tryzok ?_; (iterate 3 refine rq rfl rfl rfl rfl rfl ?_); refine rg_nil ?_; show HW _ _ _ _ _
      refine hw_region (E := TryzE) Tryzok ?_; (iterate 2 refine rq rfl rfl rfl rfl rfl ?_); refine ra 0 true rfl rfl rfl rfl rfl rfl ?_; refine rq rfl rfl rfl rfl rfl ?_; refine rg_nil ?_; show HW _ _ _ _ _
      refine hw_region (E := TryzE) Tryzok ?_; (iterate 2 refine rq rfl rfl rfl rfl rfl ?_); refine rg_nil ?_; refine ⟨i + 1, ?_, ?_, ?_⟩
      · show i + 1 ≤ _
        omega
      · first | omega | (dsimp only; omega)
      · exact ⟨⟨⟨_, rfl, (CoR.of_eq (by rw [hts]))⟩, ⟨_, rfl, (by first | exact CoR.refl _ | exact coi (by omega) | exact cob (by simp_all))⟩, ⟨_, rfl, CoR.refl _⟩, ⟨_, rfl, CoR.refl _⟩, trivial⟩, ⟨⟨_, rfl, (by rw [tsf _ _ (by omega)]; exact co_app _ (fun h => h) rfl (fun i j hi hj => CoP.refl _))⟩, trivial⟩⟩
    · skip
      have h2 := r2
      have h2 := of_decide_eq_false h2
      try simp only [Int.toNat_natCast] at h2
      obtain rfl : i = ls.length := by omega
      refine hw_exit ?_; show HW _ _ _ _ _; refine hw_seq ?_; refine hw_region (E := TryzE) Tryzok ?_; (iterate 2 refine rq rfl rfl rfl rfl rfl ?_); refine rg_nil ?_; show HW _ _ _ _ _; refine hw_ret ?_; refine ⟨.inr rfl, ?_⟩
      rw [show ls.flatten = (ls.take ls.length).flatten by rw [List.take_length]]
      exact ⟨_, _, _, _, rfl, (by (repeat' apply And.intro) <;> first | trivial | exact Nat.le_of_ble_eq_true rfl | rfl), rfl, (by (repeat' apply And.intro) <;> first | trivial | exact Nat.le_of_ble_eq_true rfl | rfl), CoL.refl _⟩
theorem good77 : goodFn Tryz.prog 77 := ⟨Tryz.f77, Tryz.func77, by kernel_rfl, by kernel_rfl⟩
theorem cOthers (l : List Fd) (i : Nat) (hi : i < l.length) (hl : l.length ≤ 16777216) : HPure Tryz.prog 77 [pP (fdl l), pI i] (prOf [pP (fdl (othersL l i))]) := by
  refine hpure_of (nt := 14) Tryzok Tryz.func77 rfl rfl (Nat.le_of_ble_eq_true rfl) ?_; refine hw_seq ?_; refine hw_region (E := TryzE) Tryzok ?_; refine rq rfl rfl rfl rfl rfl ?_; refine rg_nil ?_; show HW _ _ _ _ _
  refine hw_seq ?_
  have hll := oth_len hi hl
  refine hw_draw (E := TryzE) Tryzok Tryzmixed [0, 1, 2, 3, 4, 5, 6, 7, 8, 9] ?_; (iterate 7 refine rq rfl rfl rfl rfl rfl ?_); refine rm 0 rfl rfl rfl rfl rfl rfl ?_
  refine rg_fcall rfl rfl rfl rfl rfl rfl good90 (HPure.eat (hcs := [.one (.ref 0 2)]) (o1 := [(0, .arr true 1 25 2 (lf rwC [l.take i, l.drop (i + 1)]))]) (cConcat [l.take i, l.drop (i + 1)] hll) rfl (by (repeat' apply And.intro) <;> first | trivial | rfl) (CoL.refl _)) (CoHCL.refl _) ⟨⟨_, rfl, ⟨fun h => h, rfl, rfl, rfl, fun i j hi hj => (by have hi : i < 2 := hi; have hj : j < 1 := hj; obtain rfl : j = 0 := (by omega); rcases (show i = 0 ∨ i = 1 by omega) with rfl | rfl; exact co_takeI rfl (by omega); exact co_dropI rfl (by omega))⟩⟩, trivial⟩ rfl rfl ?_
  refine rq rfl rfl rfl rfl rfl ?_; refine rg_nil ?_; refine ⟨by kernel_rfl, ?_⟩; show HW _ _ _ _ _; refine hw_ret ?_; refine ⟨.inr rfl, ?_⟩
  exact ⟨_, _, _, _, rfl, (by (repeat' apply And.intro) <;> first | trivial | exact Nat.le_of_ble_eq_true rfl | rfl), rfl, (by (repeat' apply And.intro) <;> first | trivial | exact Nat.le_of_ble_eq_true rfl | rfl), ⟨CoC.one (CoP.of_eq (by rw [oth_flat])), trivial⟩⟩
theorem good52 : goodFn Tryz.prog 52 := ⟨Tryz.f52, Tryz.func52, by kernel_rfl, by kernel_rfl⟩
theorem cROthers (l : List Fd) (i : Nat) (hi : i < l.length) (hl : l.length ≤ 16777216) : HPure Tryz.prog 52 [pP (fdl l), pI i] (prOf [pP (fdl (othersL l i))]) := by
  refine hpure_of (nt := 15) Tryzok Tryz.func52 rfl rfl (Nat.le_of_ble_eq_true rfl) ?_; refine hw_seq ?_; refine hw_region (E := TryzE) Tryzok ?_; refine rq rfl rfl rfl rfl rfl ?_; refine rg_nil ?_; show HW _ _ _ _ _
  refine hw_seq ?_; refine hw_draw (E := TryzE) Tryzok Tryzmixed [0, 1, 2, 3, 4, 5, 6, 7, 8, 9, 10] ?_; refine rm 0 rfl rfl rfl rfl rfl rfl ?_; (iterate 3 refine rq rfl rfl rfl rfl rfl ?_)
  refine ra 1 true rfl rfl rfl rfl rfl rfl ?_; (iterate 4 refine rq rfl rfl rfl rfl rfl ?_); refine ra 2 true rfl rfl rfl rfl rfl rfl ?_; refine rq rfl rfl rfl rfl rfl ?_; refine rg_nil ?_; refine ⟨by kernel_rfl, ?_⟩
  refine hw_freeze 4 rfl rfl rfl ?_; show HW _ _ _ _ _; refine hw_ret ?_; refine ⟨.inr rfl, ?_⟩
  exact ⟨_, _, _, _, rfl, (by (repeat' apply And.intro) <;> first | trivial | exact Nat.le_of_ble_eq_true rfl | rfl), rfl, (by (repeat' apply And.intro) <;> first | trivial | exact Nat.le_of_ble_eq_true rfl | rfl), ⟨CoC.one (oth_co hi), trivial⟩⟩
theorem good76 : goodFn Tryz.prog 76 := ⟨Tryz.f76, Tryz.func76, by kernel_rfl, by kernel_rfl⟩
theorem cRedun (l : List Fd) (i : Nat) (hi : i < l.length) (hl : l.length ≤ 16777216) : HPure Tryz.prog 76 [pP (fdl l), pI i] (prOf [pB (redB l i)]) := by
  refine hpure_of (nt := 13) Tryzok Tryz.func76 rfl rfl (Nat.le_of_ble_eq_true rfl) ?_; refine hw_seq ?_; refine hw_region (E := TryzE) Tryzok ?_; refine rq rfl rfl rfl rfl rfl ?_; refine rg_nil ?_; show HW _ _ _ _ _
  refine hw_seq ?_; refine hw_draw (E := TryzE) Tryzok Tryzmixed [0, 1, 2, 3, 4, 5, 6, 7, 8] ?_; (iterate 2 refine rq rfl rfl rfl rfl rfl ?_); refine rc rfl rfl rfl rfl rfl rfl good77 (cOthers l i hi hl) (CoL.refl _) rfl rfl ?_
  (iterate 4 refine rq rfl rfl rfl rfl rfl ?_); refine rc rfl rfl rfl rfl rfl rfl good88 (cImp (othersL l i) (l.getD i default)) (CoL.refl _) rfl rfl ?_; refine rq rfl rfl rfl rfl rfl ?_; refine rg_nil ?_; refine ⟨by kernel_rfl, ?_⟩
  show HW _ _ _ _ _; refine hw_ret ?_; refine ⟨.inr rfl, ?_⟩
  exact ⟨_, _, _, _, rfl, (by (repeat' apply And.intro) <;> first | trivial | exact Nat.le_of_ble_eq_true rfl | rfl), rfl, (by (repeat' apply And.intro) <;> first | trivial | exact Nat.le_of_ble_eq_true rfl | rfl), CoL.refl _⟩
theorem good51 : goodFn Tryz.prog 51 := ⟨Tryz.f51, Tryz.func51, by kernel_rfl, by kernel_rfl⟩
theorem cRRedun (l : List Fd) (i : Nat) (hi : i < l.length) (hl : l.length ≤ 16777216) : HPure Tryz.prog 51 [pP (fdl l), pI i] (prOf [pB (redB l i)]) := by
  refine hpure_of (nt := 13) Tryzok Tryz.func51 rfl rfl (Nat.le_of_ble_eq_true rfl) ?_; refine hw_seq ?_; refine hw_region (E := TryzE) Tryzok ?_; refine rq rfl rfl rfl rfl rfl ?_; refine rg_nil ?_; show HW _ _ _ _ _
  refine hw_seq ?_; refine hw_draw (E := TryzE) Tryzok Tryzmixed [0, 1, 2, 3, 4, 5, 6, 7, 8] ?_; (iterate 2 refine rq rfl rfl rfl rfl rfl ?_); refine rc rfl rfl rfl rfl rfl rfl good52 (cROthers l i hi hl) (CoL.refl _) rfl rfl ?_
  (iterate 4 refine rq rfl rfl rfl rfl rfl ?_); refine rc rfl rfl rfl rfl rfl rfl good79 (cRImp (othersL l i) (l.getD i default)) (CoL.refl _) rfl rfl ?_; refine rq rfl rfl rfl rfl rfl ?_; refine rg_nil ?_
  refine ⟨by kernel_rfl, ?_⟩; show HW _ _ _ _ _; refine hw_ret ?_; refine ⟨.inr rfl, ?_⟩
  exact ⟨_, _, _, _, rfl, (by (repeat' apply And.intro) <;> first | trivial | exact Nat.le_of_ble_eq_true rfl | rfl), rfl, (by (repeat' apply And.intro) <;> first | trivial | exact Nat.le_of_ble_eq_true rfl | rfl), CoL.refl _⟩
theorem good74 : goodFn Tryz.prog 74 := ⟨Tryz.f74, Tryz.func74, by kernel_rfl, by kernel_rfl⟩
theorem cExtra (l : List Fd) (x : Fd) (a : Nat) : HPure Tryz.prog 74 [pP (fdl l), x.pc, pI a] (prOf [pB (exB l x a)]) := by
  refine hpure_of (nt := 17) Tryzok Tryz.func74 rfl rfl (Nat.le_of_ble_eq_true rfl) ?_; refine hw_seq ?_; refine hw_region (E := TryzE) Tryzok ?_; refine rm 0 rfl rfl rfl rfl rfl rfl ?_; refine rq rfl rfl rfl rfl rfl ?_
  refine rg_nil ?_; show HW _ _ _ _ _; refine hw_seq ?_; refine hw_draw (E := TryzE) Tryzok Tryzmixed [0, 1, 2, 3, 4, 5, 6, 7, 8, 9, 10] ?_; (iterate 9 refine rq rfl rfl rfl rfl rfl ?_)
  refine rc rfl rfl rfl rfl rfl rfl good88 (cImp l ⟨x.lhs &&& ~~~((1 : AS) <<< a), x.rhs⟩) (⟨CoC.refl _, ex_co (and_shl _ _), trivial⟩) rfl rfl ?_; refine rq rfl rfl rfl rfl rfl ?_; refine rg_nil ?_; refine ⟨by kernel_rfl, ?_⟩
  show HW _ _ _ _ _; refine hw_ret ?_; refine ⟨.inr rfl, ?_⟩
  exact ⟨_, _, _, _, rfl, (by (repeat' apply And.intro) <;> first | trivial | exact Nat.le_of_ble_eq_true rfl | rfl), rfl, (by (repeat' apply And.intro) <;> first | trivial | exact Nat.le_of_ble_eq_true rfl | rfl), CoL.refl _⟩
theorem good49 : goodFn Tryz.prog 49 := ⟨Tryz.f49, Tryz.func49, by kernel_rfl, by kernel_rfl⟩
theorem cRExtra (l : List Fd) (i a : Nat) (hi : i < l.length) : HPure Tryz.prog 49 [pP (fdl l), pI i, pI a] (prOf [pB (hasI (l.getD i default).lhs a && exB l (l.getD i default) a)]) := by
  refine hpure_of (nt := 32) Tryzok Tryz.func49 rfl rfl (Nat.le_of_ble_eq_true rfl) ?_; refine hw_seq ?_; refine hw_region (E := TryzE) Tryzok ?_; refine rq rfl rfl rfl rfl rfl ?_; refine rg_nil ?_; show HW _ _ _ _ _
  refine hw_seq ?_; refine hw_draw (E := TryzE) Tryzok Tryzmixed [0, 1, 2, 3, 4, 5, 6, 7, 8, 9, 10, 11, 12, 13, 14, 15, 16, 17, 18, 19, 20, 21, 22, 23, 24, 25] ?_; (iterate 6 refine rq rfl rfl rfl rfl rfl ?_)
  refine rc rfl rfl rfl rfl rfl rfl good69 (cHas _ _) (CoL.refl _) rfl rfl ?_; refine rq rfl rfl rfl rfl rfl ?_; refine rsplit rfl rfl (fun r0 => ?_) (fun r0 => ?_)
  · skip
    have h0 := r0
    (iterate 15 refine rq rfl rfl rfl rfl (gtt r0) ?_)
    refine rc rfl rfl rfl rfl rfl rfl good79 (cRImp l ⟨(l.getD i default).lhs &&& ~~~((1 : AS) <<< a), (l.getD i default).rhs⟩) (⟨CoC.refl _, ex_co (and_shl _ _), trivial⟩) rfl (gtt r0) ?_
    (iterate 2 refine rq rfl rfl rfl rfl rfl ?_); refine rg_nil ?_; refine ⟨by kernel_rfl, ?_⟩; show HW _ _ _ _ _; refine hw_ret ?_; refine ⟨.inr rfl, ?_⟩
    exact ⟨_, _, _, _, rfl, (by (repeat' apply And.intro) <;> first | trivial | exact Nat.le_of_ble_eq_true rfl | rfl), rfl, (by (repeat' apply And.intro) <;> first | trivial | exact Nat.le_of_ble_eq_true rfl | rfl), ⟨ccb (by simp_all [exB]), trivial⟩⟩
  · skip
    have h0 := r0
    (iterate 16 refine rk rfl rfl rfl (gft r0) ?_); refine rq rfl rfl rfl rfl rfl ?_ (hp := r0); refine rq rfl rfl rfl rfl rfl ?_; refine rg_nil ?_; refine ⟨by kernel_rfl, ?_⟩; show HW _ _ _ _ _; refine hw_ret ?_
    refine ⟨.inr rfl, ?_⟩
    exact ⟨_, _, _, _, rfl, (by (repeat' apply And.intro) <;> first | trivial | exact Nat.le_of_ble_eq_true rfl | rfl), rfl, (by (repeat' apply And.intro) <;> first | trivial | exact Nat.le_of_ble_eq_true rfl | rfl), ⟨ccb (by simp_all [exB]), trivial⟩⟩
end Go.Hx
end
section
namespace Go.Hx
def splitR (l : List Fd) (i k : Nat) : List Fd := splitL (l.take i) ++ (membT ((l.getD i default).rhs &&& ~~~(l.getD i default).lhs) k).map fun a => (⟨(l.getD i default).lhs, (1 : AS) <<< a⟩ : Fd)
theorem splitR_zero (l : List Fd) (i : Nat) : splitR l i 0 = splitL (l.take i) := by unfold splitR membT; simp
theorem splitR_t {l : List Fd} {i k : Nat} (hk : k < 32) (h : hasI ((l.getD i default).rhs &&& ~~~(l.getD i default).lhs) k = true) : splitR l i (k + 1) = splitR l i k ++ [⟨(l.getD i default).lhs, (1 : AS) <<< k⟩] := by
  unfold splitR
  rw [membT_t hk h, List.map_append, List.append_assoc]
  rfl
theorem splitR_f {l : List Fd} {i k : Nat} (hk : k < 32) (h : hasI ((l.getD i default).rhs &&& ~~~(l.getD i default).lhs) k = false) : splitR l i (k + 1) = splitR l i k := by
  unfold splitR
  rw [membT_f hk h]
theorem splitR_end {l : List Fd} {i : Nat} (hi : i < l.length) : splitR l i 32 = splitL (l.take (i + 1)) := by
  unfold splitR splitL
  rw [take_snoc hi, List.map_append, List.flatten_append]
  simp [splitA, membs, membT]
theorem splitR_len {l : List Fd} {i k : Nat} (hk : k ≤ 32) : (splitR l i k).length ≤ 32 * l.length + 32 := by
  have h1 := splitL_len (l.take i)
  have h2 := membT_len ((l.getD i default).rhs &&& ~~~(l.getD i default).lhs) k
  rw [List.length_take] at h1
  unfold splitR
  rw [List.length_append, List.length_map]
  omega
def cutF (x : Fd) (a : Nat) : Fd := ⟨x.lhs &&& ~~~((1 : AS) <<< a), x.rhs⟩
def redA (i : Nat) (l : List Fd) (a : Nat) : List Fd := if hasI (l.getD i default).lhs a && exB l (l.getD i default) a then l.set i (cutF (l.getD i default) a) else l
def redK (l : List Fd) (i k : Nat) : List Fd := ((membs (l.getD i default).lhs).take k).foldl (redA i) l
def redI (l : List Fd) (i : Nat) : List Fd := (membs (l.getD i default).lhs).foldl (redA i) l
def redT (l : List Fd) (i : Nat) : List Fd := (List.range i).foldl redI l
theorem redA_len {i a : Nat} {l : List Fd} : (redA i l a).length = l.length := by
  unfold redA
  split
  · rw [List.length_set]
  · rfl
theorem foldA_len {i : Nat} : ∀ (m : List Nat) (l : List Fd), (m.foldl (redA i) l).length = l.length
  | [], l => rfl
  | a :: m, l => by rw [List.foldl_cons, foldA_len m, redA_len]
theorem redK_len {l : List Fd} {i k : Nat} : (redK l i k).length = l.length := foldA_len _ _
theorem redI_len {l : List Fd} {i : Nat} : (redI l i).length = l.length := foldA_len _ _
theorem redT_len {l : List Fd} : ∀ {i : Nat}, (redT l i).length = l.length
  | 0 => rfl
  | i + 1 => by
    unfold redT
    rw [List.range_succ, List.foldl_append]
    show (redI ((List.range i).foldl redI l) i).length = _
    rw [redI_len]
    exact redT_len (i := i)
theorem redT_succ (l : List Fd) (i : Nat) : redT l (i + 1) = redI (redT l i) i := by
  unfold redT
  rw [List.range_succ, List.foldl_append]
  rfl
theorem redK_zero (l : List Fd) (i : Nat) : redK l i 0 = l := by unfold redK; rw [List.take_zero]; rfl
theorem redK_end {l : List Fd} {i k : Nat} (hk : k = (membs (l.getD i default).lhs).length) : redK l i k = redI l i := by
  unfold redK redI
  rw [hk, List.take_length]
theorem redK_succ {l : List Fd} {i k : Nat} (hk : k < (membs (l.getD i default).lhs).length) : redK l i (k + 1) = redA i (redK l i k) ((membs (l.getD i default).lhs).getD k default) := by
  unfold redK
  rw [take_snoc hk, List.foldl_append]
  rfl
theorem getD_setF {l : List Fd} {i : Nat} {x : Fd} (hi : i < l.length) : (l.set i x).getD i default = x := by simp [List.getD, hi]
theorem redA_lhs {i a b : Nat} {l : List Fd} (hi : i < l.length) (hb : b < 32) (hne : b ≠ a) : ((redA i l a).getD i default).lhs.getLsbD b = (l.getD i default).lhs.getLsbD b := by
  unfold redA
  split
  · rw [getD_setF hi]
    show ((l.getD i default).lhs &&& ~~~((1 : AS) <<< a)).getLsbD b = _
    rw [BitVec.getLsbD_and, BitVec.getLsbD_not, bit_one _ _ hb]
    simp [hb, hne]
  · rfl
theorem foldA_lhs {i b : Nat} (hb : b < 32) : ∀ (m : List Nat) (l : List Fd), i < l.length → (∀ a ∈ m, b ≠ a) → ((m.foldl (redA i) l).getD i default).lhs.getLsbD b = (l.getD i default).lhs.getLsbD b
  | [], l, _, _ => rfl
  | a :: m, l, hi, h => by
    rw [List.foldl_cons, foldA_lhs hb m _ (by rw [redA_len]; exact hi) fun c hc => h c (List.mem_cons_of_mem _ hc), redA_lhs hi hb (h a List.mem_cons_self)]
theorem membs_pair (s : AS) : (membs s).Pairwise (· < ·) := List.Pairwise.filter _ List.pairwise_lt_range
theorem getDn_eq {m : List Nat} {k : Nat} (hk : k < m.length) : m.getD k default = m[k] := by simp [List.getD, hk]
theorem getDn_mem {m : List Nat} {k : Nat} (hk : k < m.length) : m.getD k default ∈ m := by rw [getDn_eq hk]; exact List.getElem_mem hk
theorem redK_has {l : List Fd} {i k : Nat} (hi : i < l.length) (hk : k < (membs (l.getD i default).lhs).length) : hasI ((redK l i k).getD i default).lhs (((membs (l.getD i default).lhs).getD k default : Nat) : Int) = true := by
  have hm : (membs (l.getD i default).lhs).getD k default ∈ membs (l.getD i default).lhs := getDn_mem hk
  obtain ⟨h1, h2⟩ := mem_membs.1 hm
  rw [hasI_nat h1]
  unfold redK
  rw [foldA_lhs h1 _ _ hi, h2]
  intro a ha
  obtain ⟨j, hj, rfl⟩ := List.getElem_of_mem ha
  rw [List.length_take] at hj
  rw [List.getElem_take, getDn_eq hk]
  have := List.pairwise_iff_getElem.1 (membs_pair (l.getD i default).lhs) j k (by omega) hk (by omega)
  exact Nat.ne_of_gt this
theorem redA_t {i a : Nat} {l : List Fd} (h : hasI (l.getD i default).lhs a = true) (h2 : exB l (l.getD i default) a = true) : redA i l a = l.set i (cutF (l.getD i default) a) := by unfold redA; rw [h, h2]; rfl
theorem redA_f {i a : Nat} {l : List Fd} (h2 : exB l (l.getD i default) a = false) : redA i l a = l := by unfold redA; rw [h2]; simp
theorem redA_fr {i a : Nat} {l : List Fd} (h2 : (hasI (l.getD i default).lhs a && exB l (l.getD i default) a) = false) : redA i l a = l := by unfold redA; rw [h2]; rfl
theorem redA_tr {i a : Nat} {l : List Fd} (h2 : (hasI (l.getD i default).lhs a && exB l (l.getD i default) a) = true) : redA i l a = l.set i (cutF (l.getD i default) a) := by unfold redA; rw [h2]; rfl
theorem redA_skip {i a : Nat} {l : List Fd} (h : hasI (l.getD i default).lhs a = false) : redA i l a = l := by unfold redA; rw [h]; rfl
theorem co_setF {wr wr' : Bool} {n k i a : Nat} {e : TypeId} {l l' : List Fd} {v : Int} (hl : l' = l.set i (cutF (l.getD i default) a)) (hv : v = asI ((l.getD i default).lhs &&& ~~~((1 : AS) <<< a))) (hk : k = i) (hi : i < l.length) (hn : n = l.length) (hw : wr' = true → wr = true := by exact fun h => h) :
    CoO (.arr wr 2 e n (setEl (lf Fd.c l) k 0 [.raw (.int .u32 v)])) (.arr wr' 2 e n (lf Fd.c l')) := by
  subst hl hv hk hn
  refine ⟨hw, rfl, rfl, rfl, fun r j hr hj => CoP.of_eq ?_⟩
  unfold setEl lf
  by_cases h : r = k
  · subst h
    rw [getD_setF hi]
    rcases (by omega : j = 0 ∨ j = 1) with rfl | rfl
    · rw [if_pos ⟨rfl, Nat.le_refl _, by simp⟩]
      rfl
    · rw [if_neg (by simp)]
      rfl
  · rw [if_neg (by omega), getD_set_ne' h]
theorem co_lenF {n : Nat} {cl : Bool} {l : List Fd} (h : n = l.length) : CoP (.sl n 2 cl (lf Fd.c l)) (fdl l) := CoP.sl h.symm (.inl rfl) (fun h => by cases h) fun _ _ _ _ => CoP.refl _
def dropR : Nat → List Fd → Nat → List Fd
  | 0, l, _ => l
  | f + 1, l, i => if i < l.length then (if redB l i then dropR f (othersL l i) i else dropR f l (i + 1)) else l
theorem dropR_t {l : List Fd} {i : Nat} (hi : i < l.length) (h : redB l i = true) : dropR (l.length - i) l i = dropR ((othersL l i).length - i) (othersL l i) i := by
  rw [othersL_len hi, show l.length - i = (l.length - 1 - i) + 1 by omega]
  show (if i < l.length then (if redB l i then _ else _) else l) = _
  rw [if_pos hi, h]
  rfl
theorem dropR_f {l : List Fd} {i : Nat} (hi : i < l.length) (h : redB l i = false) : dropR (l.length - i) l i = dropR (l.length - (i + 1)) l (i + 1) := by
  rw [show l.length - i = (l.length - (i + 1)) + 1 by omega]
  show (if i < l.length then (if redB l i then _ else _) else l) = _
  rw [if_pos hi, h]
  rfl
theorem dropR_end {l : List Fd} {i : Nat} (hi : ¬ i < l.length) : dropR (l.length - i) l i = l := by rw [show l.length - i = 0 by omega]; rfl
def spl (l : List Fd) : List Fd := onceL (splitL l)
def redAll (l : List Fd) : List Fd := onceL (redT (spl l) (spl l).length)
def minS (l : List Fd) : List Fd := dropR (redAll l).length (redAll l) 0
theorem spl_len (l : List Fd) : (spl l).length ≤ 32 * l.length := Nat.le_trans (onceL_len _) (splitL_len l)
theorem redAll_len (l : List Fd) : (redAll l).length ≤ 32 * l.length := Nat.le_trans (onceL_len _) (by rw [redT_len]; exact spl_len l)
theorem foldA_filter {i : Nat} : ∀ (m : List Nat) (l : List Fd), i < l.length → (∀ a ∈ m, a < 32) → m.Pairwise (· < ·) → m.foldl (redA i) l = (m.filter fun a => (l.getD i default).lhs.getLsbD a).foldl (redA i) l
  | [], _, _, _, _ => rfl
  | a :: m, l, hi, h32, hp => by
    obtain ⟨p1, p2⟩ := List.pairwise_cons.1 hp
    have ha := h32 a List.mem_cons_self
    rw [List.foldl_cons, foldA_filter m _ (by rw [redA_len]; exact hi) (fun b hb => h32 b (List.mem_cons_of_mem _ hb)) p2]
    have e : m.filter (fun b => ((redA i l a).getD i default).lhs.getLsbD b) = m.filter fun b => (l.getD i default).lhs.getLsbD b := by
      apply List.filter_congr
      intro b hb
      exact redA_lhs hi (h32 b (List.mem_cons_of_mem _ hb)) (Nat.ne_of_gt (p1 b hb))
    rw [e, List.filter_cons]
    cases hba : (l.getD i default).lhs.getLsbD a with
    | true => rfl
    | false =>
      rw [redA_skip (by rw [hasI_nat ha]; exact hba)]
      rfl
theorem redI_range {i n : Nat} {l : List Fd} (hi : i < l.length) (hn : n ≤ 32) (h : sub (l.getD i default).lhs (fullS n)) : (List.range n).foldl (redA i) l = redI l i := by
  rw [foldA_filter _ _ hi (fun a ha => by have := List.mem_range.1 ha; omega) List.pairwise_lt_range]
  unfold redI membs
  congr 1
  obtain ⟨d, hd⟩ : ∃ d, 32 = n + d := ⟨32 - n, by omega⟩
  have key : ∀ (s : AS), sub s (fullS n) → (List.range n).filter (fun a => s.getLsbD a) = (List.range (n + d)).filter fun a => s.getLsbD a := fun s hs => by
    rw [List.range_add, List.filter_append]
    have : (List.map (fun x => n + x) (List.range d)).filter (fun a => s.getLsbD a) = [] := by
      rw [List.filter_eq_nil_iff]
      intro a ha hb
      obtain ⟨x, hx, rfl⟩ := List.mem_map.1 ha
      have hx := List.mem_range.1 hx
      have := sub_bit.1 hs (n + x) (by omega) hb
      rw [fullS_bit _ _ (by omega), decide_eq_true_eq] at this
      omega
    rw [this, List.append_nil]
  rw [key _ h, ← hd]
def lhsIn (t : AS) (l : List Fd) : Prop := ∀ x ∈ l, sub x.lhs t
theorem redA_in {t : AS} {i a : Nat} {l : List Fd} (h : lhsIn t l) : lhsIn t (redA i l a) := by
  unfold redA
  split
  · rename_i hc
    intro x hx
    rcases List.mem_or_eq_of_mem_set hx with hx | rfl
    · exact h x hx
    · by_cases hi : i < l.length
      · have := h (l.getD i default) (by rw [List.getD_eq_getElem?_getD, List.getElem?_eq_getElem hi]; exact List.getElem_mem hi)
        refine sub_trans (sub_bit.2 fun k hk hb => ?_) this
        have hb : ((l.getD i default).lhs &&& ~~~((1 : AS) <<< a)).getLsbD k = true := hb
        rw [BitVec.getLsbD_and, Bool.and_eq_true] at hb
        exact hb.1
      · rw [List.set_eq_of_length_le (by omega)] at hx
        exact h _ hx
  · exact h
theorem foldA_in {t : AS} {i : Nat} : ∀ (m : List Nat) (l : List Fd), lhsIn t l → lhsIn t (m.foldl (redA i) l)
  | [], _, h => h
  | a :: m, l, h => foldA_in m _ (redA_in h)
theorem redT_in {t : AS} {l : List Fd} (h : lhsIn t l) : ∀ i, lhsIn t (redT l i)
  | 0 => h
  | i + 1 => by rw [redT_succ]; exact foldA_in _ _ (redT_in h i)
theorem spl_in {t : AS} {l : List Fd} (h : lhsIn t l) : lhsIn t (spl l) := by
  intro x hx
  have hx := mem_onceL.1 hx
  unfold splitL at hx
  obtain ⟨ys, hys, hxy⟩ := List.mem_flatten.1 hx
  obtain ⟨f, hf, rfl⟩ := List.mem_map.1 hys
  unfold splitA at hxy
  obtain ⟨a, _, rfl⟩ := List.mem_map.1 hxy
  exact h f hf
theorem valid_in {n : Int} {l : List Fd} (h : vErr n l = 0) : lhsIn (fullI n) l := by
  obtain ⟨h0, h1, _, h3⟩ := vErr_ok h
  intro x hx
  exact ((inU_iff h0 h1).1 (List.all_eq_true.1 h3 x hx)).1
end Go.Hx
end
