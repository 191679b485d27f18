/- A part of the proof: lemmas for the theorem of this claim, merged by a program of ours out of Cs6, Cs7, Ch1, V5. -/
import Derived.Lib.TrailingZeros
import Derived.Test.YtididbpiikfaiaaDoorC17
import Derived.Test.YtididbpiikfaiaaDoorC19
set_option linter.all false
section
namespace Go.Hx
def membs (s : AS) : List Nat := (List.range 32).filter fun i => s.getLsbD i
def iC : Nat → Nat → PV := fun n _ => .raw (.int .i64 (n : Int))
abbrev il (l : List Nat) : PV := psl 1 iC l
theorem bsz_membs (s : AS) : bsz s = (membs s).length := by unfold bsz membs; rw [List.countP_eq_length_filter]
theorem mem_membs {s : AS} {i : Nat} : i ∈ membs s ↔ i < 32 ∧ s.getLsbD i = true := by simp [membs, List.mem_filter, List.mem_range]
theorem filter_first {p : Nat → Bool} {t : Nat} : ∀ {l : List Nat}, l.Pairwise (· < ·) → t ∈ l → p t = true → (∀ k, k < t → p k = false) → l.filter p = t :: l.filter fun k => decide (k ≠ t) && p k
  | [], _, h, _, _ => by cases h
  | a :: l, hp, hm, h1, h2 => by
    obtain ⟨q1, q2⟩ := List.pairwise_cons.1 hp
    by_cases ha : a = t
    · subst ha
      have e : l.filter p = l.filter fun k => decide (k ≠ a) && p k := by
        apply List.filter_congr
        intro k hk
        have := q1 k hk
        rw [decide_eq_true (by omega), Bool.true_and]
      simp [List.filter_cons, h1, e]
    · have hm' : t ∈ l := by
        rcases List.mem_cons.1 hm with h | h
        · exact absurd h.symm ha
        · exact h
      have := q1 t hm'
      have hpa := h2 a this
      simp [List.filter_cons, hpa, filter_first q2 hm' h1 h2]
def lowB (s : AS) : Nat := Lib.ctz 32 s.toNat
theorem low_spec {s : AS} (h : s ≠ 0) : ∃ m, s.toNat = 2 ^ (lowB s + 1) * m + 2 ^ lowB s ∧ lowB s < 32 := by
  have h0 : s.toNat ≠ 0 := fun e => h (BitVec.eq_of_toNat_eq e)
  obtain ⟨m, h1, h2⟩ := Lib.ctzFrom_spec 32 s.toNat (by omega) s.isLt
  have e : lowB s = Lib.ctzFrom 32 s.toNat := by unfold lowB Lib.ctz; rw [if_neg h0]
  rw [e]
  refine ⟨m, ?_, h2⟩
  rw [Nat.pow_succ]
  rw [h1] at *
  simp only [Nat.mul_add, Nat.mul_assoc, Nat.mul_one] at *
  exact h1
theorem low_bit {s : AS} (h : s ≠ 0) : lowB s < 32 ∧ s.getLsbD (lowB s) = true ∧ (∀ k, k < lowB s → s.getLsbD k = false) ∧ s &&& (s - 1) = s &&& ~~~((1 : AS) <<< lowB s) := by
  obtain ⟨m, h1, h2⟩ := low_spec h
  generalize lowB s = t at *
  have hp : 2 ^ t < 2 ^ (t + 1) := Nat.pow_lt_pow_right (by omega) (by omega)
  have hb : ∀ k, s.getLsbD k = if k < t + 1 then (2 ^ t).testBit k else m.testBit (k - (t + 1)) := fun k => by
    show s.toNat.testBit k = _
    rw [h1, Nat.testBit_two_pow_mul_add _ hp]
  have hq : 0 < 2 ^ t := Nat.two_pow_pos t
  have e1 : (s - 1).toNat = 2 ^ (t + 1) * m + (2 ^ t - 1) := by
    have := s.isLt
    rw [BitVec.toNat_sub]
    show (2 ^ 32 - 1 + s.toNat) % 2 ^ 32 = _
    omega
  have hd : ∀ k, (s - 1).getLsbD k = if k < t + 1 then (2 ^ t - 1).testBit k else m.testBit (k - (t + 1)) := fun k => by
    show (s - 1).toNat.testBit k = _
    rw [e1, Nat.testBit_two_pow_mul_add _ (by omega)]
  refine ⟨h2, ?_, fun k hk => ?_, ?_⟩
  · rw [hb, if_pos (by omega), Nat.testBit_two_pow_self]
  · rw [hb, if_pos (by omega), Nat.testBit_two_pow]
    simp; omega
  · apply BitVec.eq_of_getLsbD_eq
    intro k hk
    rw [BitVec.getLsbD_and, BitVec.getLsbD_and, BitVec.getLsbD_not, bit_one _ _ hk, hd k, hb k]
    by_cases h3 : k < t + 1
    · rw [if_pos h3, if_pos h3, Nat.testBit_two_pow, Nat.testBit_two_pow_sub_one]
      by_cases h4 : k = t
      · subst h4; simp
      · have : ¬ t = k := fun e => h4 e.symm
        simp [this]
    · rw [if_neg h3, if_neg h3]
      have : ¬ k = t := by omega
      simp [hk, this]
theorem low_clear {s : AS} (h : s ≠ 0) (k : Nat) (hk : k < 32) : (s &&& (s - 1)).getLsbD k = (decide (k ≠ lowB s) && s.getLsbD k) := by
  rw [(low_bit h).2.2.2, BitVec.getLsbD_and, BitVec.getLsbD_not, bit_one _ _ hk]
  by_cases e : k = lowB s <;> simp [e, hk, Bool.and_comm]
theorem membs_low {s : AS} (h : s ≠ 0) : membs s = lowB s :: membs (s &&& (s - 1)) := by
  obtain ⟨h1, h2, h3, _⟩ := low_bit h
  unfold membs
  rw [filter_first List.pairwise_lt_range (List.mem_range.2 h1) h2 h3]
  congr 1
  apply List.filter_congr
  intro k hk
  rw [low_clear h k (List.mem_range.1 hk)]
theorem membs_zero : membs 0 = [] := by
  unfold membs
  rw [List.filter_eq_nil_iff]
  intro k _
  simp
theorem low_less {s : AS} (h : s ≠ 0) : (s &&& (s - 1)).toNat < s.toNat := by
  refine sub_lt (sub_bit.2 fun i hi hb => ?_) fun e => ?_
  · rw [low_clear h i hi] at hb
    simp only [Bool.and_eq_true] at hb
    exact hb.2
  · have := low_clear h (lowB s) (low_bit h).1
    rw [e, (low_bit h).2.1] at this
    simp at this
theorem low_neg {s : AS} (h : s ≠ 0) : s &&& -s = (1 : AS) <<< lowB s := by
  have h0 : s.toNat ≠ 0 := fun e => h (BitVec.eq_of_toNat_eq e)
  obtain ⟨q1, q2⟩ := Lib.lowest_bit 32 s.toNat h0 s.isLt
  apply BitVec.eq_of_toNat_eq
  have := s.isLt
  rw [BitVec.toNat_and, BitVec.toNat_neg, Nat.mod_eq_of_lt (by omega), q1, BitVec.toNat_shiftLeft, Nat.shiftLeft_eq]
  show 2 ^ lowB s = 1 * 2 ^ lowB s % 2 ^ 32
  have q3 : 2 ^ lowB s < 2 ^ 32 := Nat.pow_lt_pow_right (by omega) q2
  rw [Nat.one_mul, Nat.mod_eq_of_lt q3]
end Go.Hx
end
section
namespace Go.Hx
theorem ref_len {id n m : Nat} (h : n = m) : CoR (.v (.one (.ref id n))) (.v (.one (.ref id m))) := by subst h; exact CoR.refl _
section
variable {α : Type} [Inhabited α]
theorem arr_app {wr wr' : Bool} {s m : Nat} {e : TypeId} {c : α → Nat → PV} {l l' : List α} {x : α} {g : Nat → Nat → PV} (h : l' = l ++ [x]) (hg : ∀ j, j < s → CoP (g 0 j) (c x j)) (hm : m = 1 := by rfl) (hw : wr' = true → wr = true := by exact fun h => h) :
    CoO (.arr wr s e (l.length + m) (appF l.length (lf c l) g)) (.arr wr' s e l'.length (lf c l')) := by
  subst h
  refine co_app [x] hw hm fun i j hi hj => ?_
  obtain rfl : i = 0 := by simp at hi; exact hi
  exact hg j hj
theorem arr_same {wr wr' : Bool} {s : Nat} {e : TypeId} {c : α → Nat → PV} {l l' : List α} (h : l' = l) (hw : wr' = true → wr = true := by exact fun h => h) : CoO (.arr wr s e l.length (lf c l)) (.arr wr' s e l'.length (lf c l')) := by
  subst h
  exact ⟨hw, rfl, rfl, rfl, fun _ _ _ _ => CoP.refl _⟩
end
section
variable {α : Type} [Inhabited α]
theorem ref_app {id : Nat} {l l' : List α} {x : α} (h : l' = l ++ [x]) : CoR (.v (.one (.ref id (l.length + 1)))) (.v (.one (.ref id l'.length))) := by subst h; rw [List.length_append]; exact CoR.refl _
theorem ref_same {id : Nat} {l l' : List α} (h : l' = l) : CoR (.v (.one (.ref id l.length))) (.v (.one (.ref id l'.length))) := by subst h; exact CoR.refl _
theorem arr_app1 {wr wr' : Bool} {e : TypeId} {c : α → Nat → PV} {l l' : List α} {x : α} {g : Nat → Nat → PV} (h : l' = l ++ [x]) (hg : CoP (g 0 0) (c x 0)) (hw : wr' = true → wr = true := by exact fun h => h) :
    CoO (.arr wr 1 e (l.length + 1) (appF l.length (lf c l) g)) (.arr wr' 1 e l'.length (lf c l')) :=
  arr_app h (fun j hj => by
    obtain rfl : j = 0 := by omega
    exact hg) rfl hw
theorem arr_app2 {wr wr' : Bool} {e : TypeId} {c : α → Nat → PV} {l l' : List α} {x : α} {g : Nat → Nat → PV} (h : l' = l ++ [x]) (h0 : CoP (g 0 0) (c x 0)) (h1 : CoP (g 0 1) (c x 1)) (hw : wr' = true → wr = true := by exact fun h => h) :
    CoO (.arr wr 2 e (l.length + 1) (appF l.length (lf c l) g)) (.arr wr' 2 e l'.length (lf c l')) :=
  arr_app h (fun j hj => by
    rcases (by omega : j = 0 ∨ j = 1) with rfl | rfl
    · exact h0
    · exact h1) rfl hw
end
def membT (s : AS) (i : Nat) : List Nat := (List.range i).filter fun k => s.getLsbD k
theorem membT_t {s : AS} {i : Nat} (hi : i < 32) (h : hasI s (i : Int) = true) : membT s (i + 1) = membT s i ++ [i] := by
  rw [hasI_nat hi] at h
  unfold membT
  rw [List.range_succ, List.filter_append]
  simp [h]
theorem membT_f {s : AS} {i : Nat} (hi : i < 32) (h : hasI s (i : Int) = false) : membT s (i + 1) = membT s i := by
  rw [hasI_nat hi] at h
  unfold membT
  rw [List.range_succ, List.filter_append]
  simp [h]
theorem membT_len (s : AS) (i : Nat) : (membT s i).length ≤ i := by
  unfold membT
  have := List.length_filter_le (fun k => s.getLsbD k) (List.range i)
  rwa [List.length_range] at this
end Go.Hx
end
section
namespace Go.Hx
abbrev Rw := List Int
def ltZ : Rw → Rw → Bool
  | [], [] => false
  | [], _ :: _ => true
  | _ :: _, [] => false
  | x :: a, y :: b => if x = y then ltZ a b else decide (x < y)
theorem ltZ_irr : ∀ a : Rw, ltZ a a = false
  | [] => rfl
  | x :: a => by unfold ltZ; rw [if_pos rfl]; exact ltZ_irr a
theorem ltZ_trans : ∀ {a b c : Rw}, ltZ a b = true → ltZ b c = true → ltZ a c = true
  | [], [], _, h, _ => by cases h
  | [], _ :: _, [], _, k => by cases k
  | [], _ :: _, _ :: _, _, _ => rfl
  | _ :: _, [], _, h, _ => by cases h
  | _ :: _, _ :: _, [], _, k => by cases k
  | x :: a, y :: b, z :: c, h, k => by
    unfold ltZ at *
    by_cases hxy : x = y
    · rw [if_pos hxy] at h
      subst hxy
      by_cases hyz : x = z
      · rw [if_pos hyz] at k ⊢
        exact ltZ_trans h k
      · rw [if_neg hyz] at k ⊢
        exact k
    · rw [if_neg hxy] at h
      have h := of_decide_eq_true h
      by_cases hyz : y = z
      · subst hyz
        rw [if_neg hxy]
        exact decide_eq_true h
      · rw [if_neg hyz] at k
        have k := of_decide_eq_true k
        rw [if_neg (by omega)]
        exact decide_eq_true (by omega)
theorem ltZ_tri : ∀ {a b : Rw}, a ≠ b → ltZ a b = true ∨ ltZ b a = true
  | [], [], h => absurd rfl h
  | [], _ :: _, _ => .inl rfl
  | _ :: _, [], _ => .inr rfl
  | x :: a, y :: b, h => by
    unfold ltZ
    by_cases hxy : x = y
    · subst hxy
      rw [if_pos rfl, if_pos rfl]
      exact ltZ_tri fun e => h (by rw [e])
    · rw [if_neg hxy, if_neg (Ne.symm hxy), decide_eq_true_iff, decide_eq_true_iff]
      omega
def zC : Int → Nat → PV := fun z _ => .raw (.int .i64 z)
abbrev zl (r : Rw) : PV := psl 1 zC r
def rC : Rw → Nat → PV := fun r _ => zl r
abbrev rl (l : List Rw) : PV := psl 1 rC l
theorem ltZ_asym {a b : Rw} (h : ltZ a b = true) : ltZ b a = false := by
  rw [Bool.eq_false_iff]
  intro k
  have := ltZ_trans h k
  rw [ltZ_irr] at this
  cases this
def OrdZ (l : List Rw) : Prop := l.Pairwise fun a b => ltZ a b = true
theorem ordZ_unique : ∀ {l k : List Rw}, OrdZ l → OrdZ k → (∀ x, x ∈ l ↔ x ∈ k) → l = k
  | [], [], _, _, _ => rfl
  | [], y :: k, _, _, h => absurd ((h y).2 (List.mem_cons_self ..)) (by simp)
  | x :: l, [], _, _, h => absurd ((h x).1 (List.mem_cons_self ..)) (by simp)
  | x :: l, y :: k, hl, hk, h => by
    obtain ⟨h1, h2⟩ := List.pairwise_cons.1 hl
    obtain ⟨k1, k2⟩ := List.pairwise_cons.1 hk
    have e : x = y := by
      rcases List.mem_cons.1 ((h x).1 (List.mem_cons_self ..)) with e | hx
      · exact e
      · rcases List.mem_cons.1 ((h y).2 (List.mem_cons_self ..)) with e | hy
        · exact e.symm
        · have := ltZ_asym (k1 x hx)
          rw [h1 y hy] at this
          cases this
    subst e
    congr 1
    refine ordZ_unique h2 k2 fun z => ?_
    constructor
    · intro hz
      rcases List.mem_cons.1 ((h z).1 (List.mem_cons_of_mem _ hz)) with e | hz'
      · subst e
        have := h1 z hz
        rw [ltZ_irr] at this
        cases this
      · exact hz'
    · intro hz
      rcases List.mem_cons.1 ((h z).2 (List.mem_cons_of_mem _ hz)) with e | hz'
      · subst e
        have := k1 z hz
        rw [ltZ_irr] at this
        cases this
      · exact hz'
def insZ (x : Rw) : List Rw → List Rw
  | [] => [x]
  | y :: l => if x = y then y :: l else if ltZ x y = true then x :: y :: l else y :: insZ x l
theorem mem_insZ {x z : Rw} : ∀ {l : List Rw}, z ∈ insZ x l ↔ z = x ∨ z ∈ l
  | [] => by simp [insZ]
  | y :: l => by
    unfold insZ
    split
    · rename_i e
      subst e
      simp
    · split
      · simp
      · rw [List.mem_cons, mem_insZ, List.mem_cons]
        constructor
        · rintro (h | h | h) <;> simp [h]
        · rintro (h | h | h) <;> simp [h]
theorem ordZ_insZ {x : Rw} : ∀ {l : List Rw}, OrdZ l → OrdZ (insZ x l)
  | [], _ => by simp [insZ, OrdZ]
  | y :: l, h => by
    obtain ⟨h1, h2⟩ := List.pairwise_cons.1 h
    unfold insZ
    split
    · exact h
    · split
      · rename_i hxy
        refine List.pairwise_cons.2 ⟨fun z hz => ?_, h⟩
        rcases List.mem_cons.1 hz with rfl | hz
        · exact hxy
        · exact ltZ_trans hxy (h1 z hz)
      · rename_i hne hxy
        refine List.pairwise_cons.2 ⟨fun z hz => ?_, ordZ_insZ h2⟩
        rcases mem_insZ.1 hz with rfl | hz
        · exact (ltZ_tri hne).resolve_left hxy
        · exact h1 z hz
def canon (l : List Rw) : List Rw := l.foldl (fun o x => insZ x o) []
theorem canon_aux : ∀ {l o : List Rw}, OrdZ o → OrdZ (l.foldl (fun o x => insZ x o) o) ∧ ∀ z, z ∈ l.foldl (fun o x => insZ x o) o ↔ z ∈ o ∨ z ∈ l
  | [], o, h => ⟨h, fun z => by simp⟩
  | x :: l, o, h => by
    obtain ⟨h1, h2⟩ := canon_aux (l := l) (ordZ_insZ (x := x) h)
    refine ⟨h1, fun z => ?_⟩
    show z ∈ l.foldl (fun o x => insZ x o) (insZ x o) ↔ _
    rw [h2 z, mem_insZ, List.mem_cons]
    constructor
    · rintro ((h | h) | h) <;> simp [h]
    · rintro (h | h | h) <;> simp [h]
theorem ordZ_canon (l : List Rw) : OrdZ (canon l) := (canon_aux (o := []) List.Pairwise.nil).1
theorem mem_canon {l : List Rw} {z : Rw} : z ∈ canon l ↔ z ∈ l := by
  show z ∈ l.foldl (fun o x => insZ x o) [] ↔ _
  rw [(canon_aux (l := l) (o := []) List.Pairwise.nil).2 z]
  simp
theorem canon_eq {l k : List Rw} (hk : OrdZ k) (h : ∀ z, z ∈ k ↔ z ∈ l) : k = canon l := ordZ_unique hk (ordZ_canon l) fun z => by rw [h z, mem_canon]
def insW (l : List Rw) (k : Nat) (r : Rw) : List Rw := l.take k ++ r :: l.drop k
theorem insW_len {l : List Rw} {k : Nat} {r : Rw} (h : k ≤ l.length) : (insW l k r).length = l.length + 1 := by simp [insW]; omega
theorem insW_end {l : List Rw} {r : Rw} : insW l l.length r = l ++ [r] := by simp [insW]
theorem insW_get {l : List Rw} {k i : Nat} {r : Rw} (h : k ≤ l.length) : (insW l k r)[i]? = if i < k then l[i]? else if i = k then some r else l[i - 1]? := by
  simp only [insW]
  by_cases h1 : i < k
  · rw [if_pos h1, List.getElem?_append_left (by simp; omega), List.getElem?_take, if_pos h1]
  · rw [if_neg h1, List.getElem?_append_right (by simp; omega), List.length_take, Nat.min_eq_left h]
    by_cases h2 : i = k
    · subst h2; simp
    · rw [if_neg h2]
      obtain ⟨d, rfl⟩ : ∃ d, i = k + 1 + d := ⟨i - k - 1, by omega⟩
      rw [show k + 1 + d - k = d + 1 by omega, List.getElem?_cons_succ, List.getElem?_drop]
      congr 1
      omega
theorem insW_k {l : List Rw} {k : Nat} {r : Rw} (h : k ≤ l.length) : (insW l k r).getD k default = r := by
  rw [List.getD_eq_getElem?_getD, insW_get h, if_neg (by omega), if_pos rfl]; rfl
theorem insW_pred {l : List Rw} {k : Nat} {r : Rw} (h0 : 0 < k) (h : k ≤ l.length) : (insW l k r).getD (k - 1) default = l.getD (k - 1) default := by
  rw [List.getD_eq_getElem?_getD, insW_get h, if_pos (by omega), List.getD_eq_getElem?_getD]
theorem insW_swap {l : List Rw} {k : Nat} {r : Rw} (h0 : 0 < k) (h : k ≤ l.length) : ((insW l k r).set k (l.getD (k - 1) default)).set (k - 1) r = insW l (k - 1) r := by
  apply List.ext_getElem?
  intro i
  rw [insW_get (by omega), List.getElem?_set, List.getElem?_set, List.length_set, insW_len h, insW_get h]
  by_cases h1 : k - 1 = i
  · subst h1
    rw [if_pos rfl, if_pos (by omega), if_neg (by omega), if_pos rfl]
  · rw [if_neg h1]
    by_cases h2 : k = i
    · subst h2
      rw [if_pos rfl, if_pos (by omega), if_neg (by omega), if_neg (by omega), List.getD, List.getElem?_eq_getElem (by omega)]
      rfl
    · rw [if_neg h2]
      by_cases h3 : i < k
      · rw [if_pos h3, if_pos (by omega)]
      · rw [if_neg h3, if_neg (by omega), if_neg (by omega), if_neg (by omega)]
theorem swap_insW {l : List Rw} {k k' m' : Nat} {r : Rw} (h0 : 0 < k) (hk : k ≤ l.length) (hk' : k' = k) (hm' : m' = k - 1) {n : Nat} (hn : n = l.length + 1) {e : TypeId} :
    CoO (.arr true 1 e n (setEl (setEl (lf rC (insW l k r)) k' 0 [lf rC (insW l k r) m' 0]) m' 0 [lf rC (insW l k r) k' 0])) (.arr true 1 e n (lf rC (insW l (k - 1) r))) := by
  subst hk' hm'
  rw [← insW_swap h0 hk]
  refine swap_co (fun h => h) (by rw [insW_len hk]; exact hn) (by rw [insW_len hk]; omega) (by rw [insW_len hk]; omega) rfl rfl (fun j hj => ?_) (fun j hj => ?_)
  · obtain rfl : j = 0 := by omega
    exact CoP.of_eq (by show rC ((insW l k' r).getD (k' - 1) default) 0 = _; rw [insW_pred h0 hk])
  · obtain rfl : j = 0 := by omega
    exact CoP.of_eq (by show rC ((insW l k' r).getD k' default) 0 = _; rw [insW_k hk])
theorem ltZ_at {l : List Rw} {k k' m' : Nat} {r : Rw} {b : Bool} (h0 : 0 < k) (hk : k ≤ l.length) (h : ltZ ((insW l k r).getD k' default) ((insW l k r).getD m' default) = b) (hk' : k' = k) (hm' : m' = k - 1) : ltZ r (l.getD (k - 1) default) = b := by
  subst hk' hm'
  rwa [insW_k hk, insW_pred h0 hk] at h
theorem getZ_mem {l : List Rw} {j : Nat} (h : j < l.length) : l.getD j default ∈ l := by
  rw [List.getD_eq_getElem?_getD, List.getElem?_eq_getElem h]
  exact List.getElem_mem h
theorem insW_insZ {l : List Rw} {k : Nat} {r : Rw} (hs : OrdZ l) (hr : r ∉ l) (hk : k ≤ l.length) (h1 : ∀ j, k ≤ j → j < l.length → ltZ r (l.getD j default) = true) (h2 : k = 0 ∨ ¬ ltZ r (l.getD (k - 1) default) = true) : insW l k r = insZ r l := by
  refine ordZ_unique ?_ (ordZ_insZ hs) fun z => ?_
  · unfold OrdZ insW
    rw [List.pairwise_append]
    refine ⟨hs.sublist (List.take_sublist _ _), List.pairwise_cons.2 ⟨fun z hz => ?_, hs.sublist (List.drop_sublist _ _)⟩, fun y hy z hz => ?_⟩
    · obtain ⟨j, hj, rfl⟩ := List.getElem_of_mem hz
      rw [List.length_drop] at hj
      have := h1 (k + j) (by omega) (by omega)
      rwa [List.getD_eq_getElem?_getD, List.getElem?_eq_getElem (by omega), Option.getD_some, ← List.getElem_drop] at this
    · have hyr : ltZ y r = true := by
        obtain ⟨j, hj, rfl⟩ := List.getElem_of_mem hy
        rw [List.length_take] at hj
        rcases h2 with h2 | h2
        · omega
        · have hk1 : k - 1 < l.length := by omega
          have hlast : ltZ (l.getD (k - 1) default) r = true := by
            rcases ltZ_tri (a := r) (b := l.getD (k - 1) default) (fun e => hr (e ▸ getZ_mem hk1)) with h | h
            · exact absurd h h2
            · exact h
          rw [List.getElem_take]
          by_cases hjk : j = k - 1
          · subst hjk
            rwa [List.getD_eq_getElem?_getD, List.getElem?_eq_getElem hk1, Option.getD_some] at hlast
          · refine ltZ_trans ?_ hlast
            rw [List.getD_eq_getElem?_getD, List.getElem?_eq_getElem hk1, Option.getD_some]
            exact List.pairwise_iff_getElem.1 hs j (k - 1) (by omega) hk1 (by omega)
      rcases List.mem_cons.1 hz with rfl | hz
      · exact hyr
      · have h3 : ltZ r z = true := by
          obtain ⟨j, hj, rfl⟩ := List.getElem_of_mem hz
          rw [List.length_drop] at hj
          have := h1 (k + j) (by omega) (by omega)
          rwa [List.getD_eq_getElem?_getD, List.getElem?_eq_getElem (by omega), Option.getD_some, ← List.getElem_drop] at this
        exact ltZ_trans hyr h3
  · rw [mem_insZ]
    unfold insW
    rw [List.mem_append, List.mem_cons]
    constructor
    · rintro (h | h | h)
      · exact .inr (List.mem_of_mem_take h)
      · exact .inl h
      · exact .inr (List.mem_of_mem_drop h)
    · rintro (h | h)
      · exact .inr (.inl h)
      · rw [← List.take_append_drop k l, List.mem_append] at h
        rcases h with h | h
        · exact .inl h
        · exact .inr (.inr h)
theorem insZ_mem {r : Rw} {l : List Rw} (hs : OrdZ l) (hr : r ∈ l) : insZ r l = l := ordZ_unique (ordZ_insZ hs) hs fun z => by
  rw [mem_insZ]
  constructor
  · rintro (rfl | h)
    · exact hr
    · exact h
  · exact .inr
theorem canon_take {l : List Rw} {i : Nat} (hi : i < l.length) : canon (l.take (i + 1)) = insZ (l.getD i default) (canon (l.take i)) := by
  unfold canon
  rw [take_snoc hi, List.foldl_append]
  rfl
theorem insZ_len (x : Rw) : ∀ l : List Rw, (insZ x l).length ≤ l.length + 1
  | [] => by simp [insZ]
  | y :: l => by
    unfold insZ
    have := insZ_len x l
    split
    · simp
    · split
      · simp
      · simp only [List.length_cons]; omega
theorem canon_len (l : List Rw) : (canon l).length ≤ l.length := by
  have : ∀ (l o : List Rw), (l.foldl (fun o x => insZ x o) o).length ≤ o.length + l.length := by
    intro l
    induction l with
    | nil => intro o; simp
    | cons x l ih =>
      intro o
      have h1 := ih (insZ x o)
      have h2 := insZ_len x o
      simp only [List.foldl_cons, List.length_cons]
      omega
  have h := this l []
  simpa [canon] using h
end Go.Hx
end
section
namespace Go.Hx
open Go.Proofs
set_option maxRecDepth 100000
theorem good45 : goodFn Tryd.prog 45 := ⟨Tryd.f45, Tryd.func45, by kernel_rfl, by kernel_rfl⟩
theorem cHas (s : AS) (i : Int) : HPure Tryd.prog 45 [pA s, pI i] (prOf [pB (hasI s i)]) := by
  refine hpure_of (nt := 18) Trydok Tryd.func45 rfl rfl (Nat.le_of_ble_eq_true rfl) ?_; refine hw_seq ?_; refine hw_region (E := TrydE) Trydok ?_; refine rq rfl rfl rfl rfl rfl ?_; refine rg_nil ?_; show HW _ _ _ _ _
  refine hw_seq ?_; refine hw_region (E := TrydE) Trydok ?_; (iterate 3 refine rq rfl rfl rfl rfl rfl ?_); refine rsplit rfl rfl (fun r0 => ?_) (fun r0 => ?_)
  · skip
    have h0 := r0
    have h0 := of_decide_eq_true h0
    try simp only [Int.toNat_natCast] at h0
    (iterate 2 refine rq rfl rfl rfl rfl (gtt r0) ?_); (iterate 2 refine rq rfl rfl rfl rfl rfl ?_); refine rsplit rfl rfl (fun r1 => ?_) (fun r1 => ?_)
    · skip
      have h1 := r1
      have h1 := bif_t r0 h1
      have h1 := of_decide_eq_true h1
      try simp only [Int.toNat_natCast] at h1
      (iterate 5 refine rq rfl rfl rfl rfl (gtt r1) ?_); (iterate 2 refine rq rfl rfl rfl rfl rfl ?_); refine rg_nil ?_; show HW _ _ _ _ _; refine hw_ret ?_; refine ⟨.inr rfl, ?_⟩
      exact ⟨_, _, _, _, rfl, (by (repeat' apply And.intro) <;> first | trivial | exact Nat.le_of_ble_eq_true rfl | rfl), rfl, (by (repeat' apply And.intro) <;> first | trivial | exact Nat.le_of_ble_eq_true rfl | rfl), ⟨ccb (by first | exact bif_tk (by assumption) (has_v (by omega) (by omega)) | exact (hasI_f (by omega)).symm), trivial⟩⟩
    · skip
      have h1 := r1
      have h1 := bif_t r0 h1
      have h1 := of_decide_eq_false h1
      try simp only [Int.toNat_natCast] at h1
      (iterate 5 refine rk rfl rfl rfl (gft r1) ?_); refine rq rfl rfl rfl rfl rfl ?_ (hp := r1); refine rq rfl rfl rfl rfl rfl ?_; refine rg_nil ?_; show HW _ _ _ _ _; refine hw_ret ?_; refine ⟨.inr rfl, ?_⟩
      exact ⟨_, _, _, _, rfl, (by (repeat' apply And.intro) <;> first | trivial | exact Nat.le_of_ble_eq_true rfl | rfl), rfl, (by (repeat' apply And.intro) <;> first | trivial | exact Nat.le_of_ble_eq_true rfl | rfl), ⟨ccb (by first | exact bif_tk (by assumption) (has_v (by omega) (by omega)) | exact (hasI_f (by omega)).symm), trivial⟩⟩
  · skip
    have h0 := r0
    have h0 := of_decide_eq_false h0
    try simp only [Int.toNat_natCast] at h0
    (iterate 2 refine rk rfl rfl rfl (gft r0) ?_); refine rq rfl rfl rfl rfl rfl ?_ (hp := r0); refine rq rfl rfl rfl rfl rfl ?_; (iterate 5 refine rk rfl rfl rfl rfl ?_); (iterate 2 refine rq rfl rfl rfl rfl rfl ?_)
    refine rg_nil ?_; show HW _ _ _ _ _; refine hw_ret ?_; refine ⟨.inr rfl, ?_⟩
    exact ⟨_, _, _, _, rfl, (by (repeat' apply And.intro) <;> first | trivial | exact Nat.le_of_ble_eq_true rfl | rfl), rfl, (by (repeat' apply And.intro) <;> first | trivial | exact Nat.le_of_ble_eq_true rfl | rfl), ⟨ccb (by first | exact bif_tk (by assumption) (has_v (by omega) (by omega)) | exact (hasI_f (by omega)).symm), trivial⟩⟩
end Go.Hx
end
