/- A part of the proof: lemmas for the theorem of this claim, merged by a program of ours out of Cs4, V2, Cl1, Cl2, Cs5, Cs2, Cs6, Cs7, Ch1, V5. -/
import Derived.Lib.TrailingZeros
import Derived.Test.YtididbpiikfaiaaDoorE16
import Derived.Test.YtididbpiikfaiaaDoorE17
set_option linter.all false
section
namespace Go.Hx
theorem bit_one (i k : Nat) (hk : k < 32) : ((1 : AS) <<< i).getLsbD k = decide (k = i) := by
  rw [BitVec.getLsbD_shiftLeft]
  by_cases h : k < i
  · simp [h, hk]; omega
  · by_cases e : k = i
    · subst e; simp [hk]
    · have : 0 < k - i := by omega
      simp [hk, h, e, BitVec.getLsbD_one]
      omega
theorem fullS_bit : ∀ (n k : Nat), k < 32 → (fullS n).getLsbD k = decide (k < n)
  | 0, k, hk => by simp [fullS]
  | n + 1, k, hk => by
    rw [fullS_succ, BitVec.getLsbD_or, fullS_bit n k hk, bit_one n k hk]
    by_cases h : k < n
    · simp [h]; omega
    · by_cases e : k = n
      · simp [e]
      · simp [h, e]; omega
theorem shr0 {s : AS} {n : Nat} : s >>> n = 0 ↔ ∀ k, k < 32 → n ≤ k → s.getLsbD k = false := by
  constructor
  · intro h k hk hn
    have := congrArg (fun x : AS => x.getLsbD (k - n)) h
    simp only [BitVec.getLsbD_ushiftRight] at this
    rw [show n + (k - n) = k by omega] at this
    simpa using this
  · intro h
    apply BitVec.eq_of_getLsbD_eq
    intro i hi
    rw [BitVec.getLsbD_ushiftRight]
    by_cases hk : n + i < 32
    · rw [h (n + i) hk (by omega)]; simp
    · rw [BitVec.getLsbD_of_ge _ _ (by omega)]; simp
theorem within_iff {s : AS} {n : Nat} (hn : n ≤ 32) : sub s (fullS n) ↔ s >>> n = 0 := by
  rw [sub_bit, shr0]
  constructor
  · intro h k hk hle
    rw [Bool.eq_false_iff]
    intro e
    have := h k hk e
    rw [fullS_bit n k hk, decide_eq_true_iff] at this
    omega
  · intro h k hk e
    rw [fullS_bit n k hk, decide_eq_true_iff]
    apply Nat.lt_of_not_le
    intro hle
    rw [h k hk hle] at e
    cases e
theorem inU_iff {n : Int} (hn : 0 ≤ n) (h16 : n ≤ 16) {f : Fd} : inU n f = true ↔ sub f.lhs (fullI n) ∧ sub f.rhs (fullI n) := by
  unfold inU fullI
  rw [decide_eq_true_iff, Nat.min_eq_left (by omega), ← within_iff (by omega)]
  exact ⟨fun h => ⟨sub_trans sub_or_l h, sub_trans sub_or_r h⟩, fun h => or_sub h.1 h.2⟩
abbrev Fd.pc (f : Fd) : PC := .agg [f.c 0, f.c 1]
def imp (l : List Fd) (f : Fd) : Bool := decide (sub f.rhs (clo l f.lhs))
end Go.Hx
end
section
namespace Go.Hx
open Go.Proofs
set_option maxRecDepth 100000
theorem good69 : goodFn Tryd.prog 69 := ⟨Tryd.f69, Tryd.func69, by kernel_rfl, by kernel_rfl⟩
theorem cRValid (n : Int) (l : List Fd) : HPure Tryd.prog 69 [pI n, pP (fdl l)] (prOf [pI (vErr n l)]) := by
  refine hpure_of (nt := 42) Trydok Tryd.func69 rfl rfl (Nat.le_of_ble_eq_true rfl) ?_; refine hw_seq ?_
  refine hw_bt 1 rfl fun hlen => ?_
  refine hw_region (E := TrydE) Trydok ?_; refine rq rfl rfl rfl rfl rfl ?_; refine rg_nil ?_; show HW _ _ _ _ _; (iterate 2 refine hw_seq ?_); refine hw_region (E := TrydE) Trydok ?_; (iterate 3 refine rq rfl rfl rfl rfl rfl ?_)
  refine rsplit rfl rfl (fun r0 => ?_) (fun r0 => ?_)
  · skip
    have h0 := r0
    have h0 := of_decide_eq_true h0
    try simp only [Int.toNat_natCast] at h0
    (iterate 2 refine rk rfl rfl rfl (gtf r0) ?_); refine rq rfl rfl rfl rfl rfl ?_ (hp := r0); refine rg_nil ?_; show HW _ _ _ _ _; refine hw_cond _ rfl (fun _ => ?_) (fun e => by cases e); refine hw_seq ?_
    refine hw_region (E := TrydE) Trydok ?_; refine rq rfl rfl rfl rfl rfl ?_; refine rg_nil ?_; show HW _ _ _ _ _; refine hw_ret ?_; refine ⟨.inr rfl, ?_⟩
    exact ⟨_, _, _, _, rfl, (by (repeat' apply And.intro) <;> first | trivial | exact Nat.le_of_ble_eq_true rfl | rfl), rfl, (by (repeat' apply And.intro) <;> first | trivial | exact Nat.le_of_ble_eq_true rfl | rfl), ⟨cci (by rw [vErr, if_pos (by omega)]), trivial⟩⟩
  · skip
    have h0 := r0
    have h0 := of_decide_eq_false h0
    try simp only [Int.toNat_natCast] at h0
    (iterate 2 refine rq rfl rfl rfl rfl (gff r0) ?_); refine rq rfl rfl rfl rfl rfl ?_; refine rg_nil ?_; show HW _ _ _ _ _; refine hw_cond _ rfl (fun r1 => ?_) (fun r1 => ?_)
    · skip
      have h1 := r1
      have h1 := bif_f r0 h1
      have h1 := of_decide_eq_true h1
      try simp only [Int.toNat_natCast] at h1
      refine hw_seq ?_; refine hw_region (E := TrydE) Trydok ?_; refine rq rfl rfl rfl rfl rfl ?_; refine rg_nil ?_; show HW _ _ _ _ _; refine hw_ret ?_; refine ⟨.inr rfl, ?_⟩
      exact ⟨_, _, _, _, rfl, (by (repeat' apply And.intro) <;> first | trivial | exact Nat.le_of_ble_eq_true rfl | rfl), rfl, (by (repeat' apply And.intro) <;> first | trivial | exact Nat.le_of_ble_eq_true rfl | rfl), ⟨cci (by rw [vErr, if_pos (by omega)]), trivial⟩⟩
    · skip
      have h1 := r1
      have h1 := bif_f r0 h1
      have h1 := of_decide_eq_false h1
      try simp only [Int.toNat_natCast] at h1
      refine hw_skip ?_; show HW _ _ _ _ _; (iterate 2 refine hw_seq ?_); refine hw_region (E := TrydE) Trydok ?_; (iterate 3 refine rq rfl rfl rfl rfl rfl ?_); refine rg_nil ?_; show HW _ _ _ _ _
      refine hw_cond _ rfl (fun r2 => ?_) (fun r2 => ?_)
      · skip
        have h2 := r2
        have h2 := of_decide_eq_true h2
        try simp only [Int.toNat_natCast] at h2
        refine hw_seq ?_; refine hw_region (E := TrydE) Trydok ?_; refine rq rfl rfl rfl rfl rfl ?_; refine rg_nil ?_; show HW _ _ _ _ _; refine hw_ret ?_; refine ⟨.inr rfl, ?_⟩
        exact ⟨_, _, _, _, rfl, (by (repeat' apply And.intro) <;> first | trivial | exact Nat.le_of_ble_eq_true rfl | rfl), rfl, (by (repeat' apply And.intro) <;> first | trivial | exact Nat.le_of_ble_eq_true rfl | rfl), ⟨cci (by rw [vErr, if_neg (by omega), if_pos (by omega)]), trivial⟩⟩
      · skip
        have h2 := r2
        have h2 := of_decide_eq_false h2
        try simp only [Int.toNat_natCast] at h2
        refine hw_skip ?_; show HW _ _ _ _ _; refine hw_seq ?_; refine hw_region (E := TrydE) Trydok ?_; refine rq rfl rfl rfl rfl rfl ?_; refine rc rfl rfl rfl rfl rfl rfl good30 (cRFull n) (CoL.refl _) rfl rfl ?_
        refine rq rfl rfl rfl rfl rfl ?_; refine rg_nil ?_; show HW _ _ _ _ _; (iterate 2 refine hw_seq ?_); refine hw_region (E := TrydE) Trydok ?_; refine rq rfl rfl rfl rfl rfl ?_; refine rg_nil ?_; show HW _ _ _ _ _
        refine hw_block ?_
        refine hw_loopK (ι := Nat) ⟨[(1, some _), (5, some _)], []⟩ ⟨⟨⟨_, rfl, CoR.refl _⟩, ⟨_, rfl, CoR.refl _⟩, trivial⟩, trivial⟩ (fun i => ⟨[(6, some (vI i))], []⟩) (fun i => i ≤ l.length ∧ ∀ j, j < i → inU n (l.getD j default) = true) (fun i => l.length - i) (0) (⟨Nat.zero_le _, fun j hj => absurd hj (Nat.not_lt_zero j)⟩) ⟨⟨⟨_, rfl, (by first | exact CoR.refl _ | exact coi (by omega) | exact cob (by simp_all))⟩, trivial⟩, trivial⟩ ?_
        rintro i ⟨hi, hI⟩
        (iterate 2 refine hw_seq ?_); refine hw_region (E := TrydE) Trydok ?_; (iterate 4 refine rq rfl rfl rfl rfl rfl ?_); refine rg_nil ?_; show HW _ _ _ _ _; refine hw_cond _ rfl (fun r3 => ?_) (fun r3 => ?_)
        · skip
          have h3 := r3
          have h3 := of_decide_eq_true h3
          try simp only [Int.toNat_natCast] at h3
          refine hw_skip ?_; show HW _ _ _ _ _; refine hw_seq ?_; refine hw_block ?_; refine hw_seq ?_; refine hw_region (E := TrydE) Trydok ?_; (iterate 6 refine rq rfl rfl rfl rfl rfl ?_)
          refine rc rfl rfl rfl rfl rfl rfl good44 (cRSub _ _) (CoL.refl _) rfl rfl ?_; (iterate 2 refine rq rfl rfl rfl rfl rfl ?_); refine rsplit rfl rfl (fun r4 => ?_) (fun r4 => ?_)
          · skip
            have h4 := r4
            have h4 := not_t h4
            (iterate 8 refine rk rfl rfl rfl (gtf r4) ?_); refine rq rfl rfl rfl rfl rfl ?_ (hp := r4); refine rg_nil ?_; show HW _ _ _ _ _; refine hw_cond _ rfl (fun _ => ?_) (fun e => by cases e); refine hw_seq ?_
            refine hw_region (E := TrydE) Trydok ?_; refine rq rfl rfl rfl rfl rfl ?_; refine rg_nil ?_; show HW _ _ _ _ _; refine hw_ret ?_; refine ⟨.inr rfl, ?_⟩
            exact ⟨_, _, _, _, rfl, (by (repeat' apply And.intro) <;> first | trivial | exact Nat.le_of_ble_eq_true rfl | rfl), rfl, (by (repeat' apply And.intro) <;> first | trivial | exact Nat.le_of_ble_eq_true rfl | rfl), ⟨cci (by rw [vErr, if_neg (by omega), if_neg (by omega), if_neg (fun e => absurd (all_f (l := l) (p := inU n) (i := i) (by omega) (by rw [Bool.eq_false_iff]; intro e2; rw [inU_iff (by omega) (by omega)] at e2; simp_all)) (by rw [e]; decide))]), trivial⟩⟩
          · skip
            have h4 := r4
            have h4 := not_f h4
            (iterate 6 refine rq rfl rfl rfl rfl (gff r4) ?_); refine rc rfl rfl rfl rfl rfl rfl good44 (cRSub _ _) (CoL.refl _) rfl (gff r4) ?_; refine rq rfl rfl rfl rfl (gff r4) ?_; refine rq rfl rfl rfl rfl rfl ?_
            refine rg_nil ?_; show HW _ _ _ _ _; refine hw_cond _ rfl (fun r5 => ?_) (fun r5 => ?_)
            · skip
              have h5 := r5
              have h5 := bif_f r4 h5
              have h5 := not_t h5
              refine hw_seq ?_; refine hw_region (E := TrydE) Trydok ?_; refine rq rfl rfl rfl rfl rfl ?_; refine rg_nil ?_; show HW _ _ _ _ _; refine hw_ret ?_; refine ⟨.inr rfl, ?_⟩
              exact ⟨_, _, _, _, rfl, (by (repeat' apply And.intro) <;> first | trivial | exact Nat.le_of_ble_eq_true rfl | rfl), rfl, (by (repeat' apply And.intro) <;> first | trivial | exact Nat.le_of_ble_eq_true rfl | rfl), ⟨cci (by rw [vErr, if_neg (by omega), if_neg (by omega), if_neg (fun e => absurd (all_f (l := l) (p := inU n) (i := i) (by omega) (by rw [Bool.eq_false_iff]; intro e2; rw [inU_iff (by omega) (by omega)] at e2; simp_all)) (by rw [e]; decide))]), trivial⟩⟩
            · skip
              have h5 := r5
              have h5 := bif_f r4 h5
              have h5 := not_f h5
              refine hw_skip ?_; show HW _ _ _ _ _; refine hw_region (E := TrydE) Trydok ?_; (iterate 3 refine rq rfl rfl rfl rfl rfl ?_); refine rg_nil ?_; refine ⟨i + 1, ?_, ?_, ?_⟩
              · refine ⟨by omega, fun j hj => ?_⟩
                rcases Nat.lt_or_eq_of_le (Nat.le_of_lt_succ hj) with h | h
                · exact hI j h
                · subst h
                  exact (inU_iff (by omega) (by omega)).2 (by simp_all)
              · first | omega | (dsimp only; omega)
              · exact ⟨⟨⟨_, rfl, (by first | exact CoR.refl _ | exact coi (by omega) | exact cob (by simp_all))⟩, ⟨_, rfl, CoR.refl _⟩, ⟨_, rfl, CoR.refl _⟩, trivial⟩, trivial⟩
        · skip
          have h3 := r3
          have h3 := of_decide_eq_false h3
          try simp only [Int.toNat_natCast] at h3
          obtain rfl : i = l.length := by omega
          refine hw_exit ?_; show HW _ _ _ _ _; refine hw_seq ?_; refine hw_region (E := TrydE) Trydok ?_; refine rq rfl rfl rfl rfl rfl ?_; refine rg_nil ?_; show HW _ _ _ _ _; refine hw_ret ?_; refine ⟨.inr rfl, ?_⟩
          exact ⟨_, _, _, _, rfl, (by (repeat' apply And.intro) <;> first | trivial | exact Nat.le_of_ble_eq_true rfl | rfl), rfl, (by (repeat' apply And.intro) <;> first | trivial | exact Nat.le_of_ble_eq_true rfl | rfl), ⟨cci (by rw [vErr, if_neg (by omega), if_neg (by omega), if_pos (all_t fun j hj => hI j hj)]), trivial⟩⟩
end Go.Hx
end
section
namespace Go.Hx
variable {α : Type}
theorem take_snoc [Inhabited α] {l : List α} {q : Nat} (hq : q < l.length) : l.take (q + 1) = l.take q ++ [l.getD q default] := by
  rw [List.take_add_one, List.getElem?_eq_getElem hq]
  simp [List.getD, hq]
theorem last_take [Inhabited α] {l : List α} {q : Nat} (h0 : 0 < q) (hq : q ≤ l.length) : (l.take q).getLast? = some (l.getD (q - 1) default) := by
  obtain ⟨k, rfl⟩ : ∃ k, q = k + 1 := ⟨q - 1, by omega⟩
  rw [take_snoc (by omega), List.getLast?_append]
  simp
section
variable [DecidableEq α]
def cmpF : Option α → List α → List α
  | _, [] => []
  | p, x :: l => if p = some x then cmpF p l else x :: cmpF (some x) l
def cmp1 (l : List α) : List α := cmpF none l
def lastOr (p : Option α) (l : List α) : Option α := match l.getLast? with | some y => some y | none => p
theorem lastOr_cons (p : Option α) (y : α) (l : List α) : lastOr p (y :: l) = lastOr (some y) l := by
  unfold lastOr
  cases l with
  | nil => rfl
  | cons z l => simp [List.getLast?_cons]
theorem cmpF_snoc (x : α) : ∀ (l : List α) (p : Option α), cmpF p (l ++ [x]) = cmpF p l ++ (if lastOr p l = some x then [] else [x])
  | [], p => by
    unfold lastOr
    simp only [List.nil_append, cmpF, List.getLast?_nil]
    by_cases h : p = some x <;> simp [h]
  | y :: l, p => by
    rw [lastOr_cons]
    simp only [List.cons_append, cmpF]
    split
    · rename_i h
      rw [cmpF_snoc x l p, h]
    · rw [cmpF_snoc x l (some y)]; rfl
theorem cmp1_step [Inhabited α] {l : List α} {q : Nat} (h0 : 0 < q) (hq : q < l.length) : cmp1 (l.take (q + 1)) = cmp1 (l.take q) ++ (if l.getD (q - 1) default = l.getD q default then [] else [l.getD q default]) := by
  unfold cmp1
  rw [take_snoc hq, cmpF_snoc]
  unfold lastOr
  rw [last_take h0 (by omega)]
  simp
theorem cmp1_pre [Inhabited α] {l : List α} : ∀ {k : Nat}, k ≤ l.length → (∀ j, 0 < j → j < k → ¬ l.getD j default = l.getD (j - 1) default) → cmp1 (l.take k) = l.take k
  | 0, _, _ => rfl
  | 1, hk, _ => by
    rw [take_snoc (by omega)]
    simp [cmp1, cmpF]
  | k + 2, hk, h => by
    rw [cmp1_step (by omega) (by omega), cmp1_pre (by omega) (fun j h1 h2 => h j h1 (by omega)), if_neg (fun e => h (k + 1) (by omega) (by omega) e.symm), ← take_snoc (by omega)]
theorem cmp1_sub : ∀ (l : List α) (p : Option α), ∀ x ∈ cmpF p l, x ∈ l
  | [], _, x, h => by simp [cmpF] at h
  | y :: l, p, x, h => by
    simp only [cmpF] at h
    split at h
    · exact List.mem_cons_of_mem _ (cmp1_sub l p x h)
    · rcases List.mem_cons.1 h with rfl | h
      · exact List.mem_cons_self
      · exact List.mem_cons_of_mem _ (cmp1_sub l _ x h)
theorem cmpF_mem : ∀ (l : List α) (p : Option α), ∀ x ∈ l, p = some x ∨ x ∈ cmpF p l
  | y :: l, p, x, h => by
    simp only [cmpF]
    split
    · rename_i hp
      rcases List.mem_cons.1 h with rfl | h
      · exact .inl hp
      · exact cmpF_mem l p x h
    · rcases List.mem_cons.1 h with rfl | h
      · exact .inr List.mem_cons_self
      · rcases cmpF_mem l (some y) x h with h | h
        · simp only [Option.some.injEq] at h
          subst h
          exact .inr List.mem_cons_self
        · exact .inr (List.mem_cons_of_mem _ h)
theorem mem_cmp1 {l : List α} {x : α} : x ∈ cmp1 l ↔ x ∈ l := ⟨cmp1_sub l none x, fun h => by
  rcases cmpF_mem l none x h with h | h
  · cases h
  · exact h⟩
end
section
variable [Inhabited α]
theorem getD_set_eq {l : List α} {p : Nat} {v : α} (hp : p < l.length) : (l.set p v).getD p default = v := by simp [List.getD, hp]
theorem getD_set_ne' {l : List α} {p j : Nat} {v : α} (h : j ≠ p) : (l.set p v).getD j default = l.getD j default := by
  simp only [List.getD, List.getElem?_set_ne (Ne.symm h)]
theorem co_set1 {wr wr' : Bool} {n p k : Nat} {e : TypeId} {c : α → Nat → PV} {l : List α} {v : α} {x : PV} (hw : wr' = true → wr = true) (hn : n = l.length) (hp : k = p) (hk : p < l.length) (hx : x = c v 0) :
    CoO (.arr wr 1 e n (setEl (lf c l) k 0 [x])) (.arr wr' 1 e n (lf c (l.set p v))) := by
  subst hp hx hn
  refine ⟨hw, rfl, rfl, rfl, fun i j hi hj => CoP.of_eq ?_⟩
  obtain rfl : j = 0 := by omega
  unfold setEl lf
  by_cases h : i = k
  · subst h
    rw [if_pos ⟨rfl, by omega, by simp⟩, getD_set_eq hk]
    rfl
  · rw [if_neg (by omega), getD_set_ne' h]
theorem co_setE {wr wr' : Bool} {n p k q d : Nat} {e : TypeId} {c : α → Nat → PV} {l l' : List α} (hw : wr' = true → wr = true) (hn : n = l.length) (hp : k = p) (hk : p < l.length) (hd : d = q) :
    CoO (.arr wr 1 e n (setEl (lf c l) k 0 [lf c l' d 0])) (.arr wr' 1 e n (lf c (l.set p (l'.getD q default)))) := co_set1 hw hn hp hk (by rw [hd]; rfl)
theorem co_cutZ {n m a : Nat} {cl : Bool} {c : α → Nat → PV} {l l' : List α} {z : List Value} {p : Option Int} {h : Option Int} (hn : less (upTo n h) p = l'.length) (hp : p = none) (ha : l'.length ≤ a) (hl : l' = l.take l'.length) :
    CoP (.sl (less (upTo n h) p) 1 cl (from_ (setZ (lf c l) a m z) p)) (psl 1 c l') := by
  subst hp
  refine CoP.sl hn.symm (.inl rfl) (fun h => by cases h) fun i j hi hj => CoP.of_eq ?_
  rw [hn] at hi
  show setZ (lf c l) a m z i j = lf c l' i j
  unfold setZ
  rw [if_neg (by omega)]
  simp only [lf, List.getD]
  have e : l'[i]? = l[i]? := by rw [hl, List.getElem?_take, if_pos hi]
  rw [e]
end
abbrev sC : AS → Nat → PV := fun s _ => asC s
structure CpI (l : List AS) (k p q : Nat) (m : List AS) : Prop where
  len : m.length = l.length
  kq : k < q
  pq : p < q
  ql : q ≤ l.length
  pre : m.take p = cmp1 (l.take q)
  high : ∀ j, q - 1 ≤ j → m.getD j default = l.getD j default
theorem CpI.start {l : List AS} {k : Nat} (h1 : 1 ≤ k) (hk : k < l.length) (h : ∀ j, 0 < j → j < k → ¬ l.getD j default = l.getD (j - 1) default) (hd : l.getD k default = l.getD (k - 1) default) : CpI l k k (k + 1) l :=
  ⟨rfl, by omega, by omega, by omega, by rw [cmp1_step (by omega) hk, if_pos hd.symm, List.append_nil, cmp1_pre (by omega) h], fun _ _ => rfl⟩
theorem CpI.skip {l : List AS} {k p q : Nat} {m : List AS} (h : CpI l k p q m) (hq : q < l.length) (he : m.getD q default = m.getD (q - 1) default) : CpI l k p (q + 1) m := by
  have hk := h.kq
  refine ⟨h.len, by omega, by have := h.pq; omega, hq, ?_, fun j hj => h.high j (by omega)⟩
  rw [h.high q (by omega), h.high (q - 1) (by omega)] at he
  rw [cmp1_step (by omega) hq, if_pos he.symm, List.append_nil, h.pre]
theorem CpI.keep {l : List AS} {k p q : Nat} {m : List AS} (h : CpI l k p q m) (hq : q < l.length) (he : ¬ m.getD q default = m.getD (q - 1) default) : CpI l k (p + 1) (q + 1) (m.set p (m.getD q default)) := by
  have hk := h.kq
  have hp := h.pq
  have hl := h.len
  refine ⟨by simp [hl], by omega, by omega, hq, ?_, fun j hj => by rw [getD_set_ne' (by omega)]; exact h.high j (by omega)⟩
  have e := h.high q (by omega)
  rw [e, h.high (q - 1) (by omega)] at he
  rw [cmp1_step (by omega) hq, if_neg (fun e => he e.symm), ← h.pre, take_snoc (by simp [hl]; omega), getD_set_eq (by omega), e]
  congr 1
  rw [List.take_set, List.set_eq_of_length_le (by simp; omega)]
end Go.Hx
end
section
namespace Go.Hx
section
variable {α : Type} [Inhabited α] {p : α → Bool} {l : List α}
theorem idx_ge : (decide (0 ≤ idx p l)) = l.any p := by
  unfold idx
  cases hf : l.findIdx? p with
  | none =>
    rw [List.findIdx?_eq_none_iff] at hf
    have : l.any p = false := by
      rw [List.any_eq_false]
      intro x hx
      rw [hf x hx]
      exact Bool.false_ne_true
    rw [this]; rfl
  | some i =>
    obtain ⟨h1, h2, _⟩ := List.findIdx?_eq_some_iff_getElem.1 hf
    have : l.any p = true := List.any_eq_true.2 ⟨l[i], List.getElem_mem h1, h2⟩
    rw [this]
    exact decide_eq_true (Int.natCast_nonneg i)
theorem filter_pre : ∀ {k : Nat}, k ≤ l.length → (∀ j, j < k → p (l.getD j default) = false) → (l.take k).filter (fun x => !p x) = l.take k
  | 0, _, _ => by simp
  | k + 1, hk, h => by rw [take_snoc (by omega), List.filter_append, filter_pre (by omega) fun j hj => h j (by omega)]; simp only [List.filter_cons, h k (by omega), Bool.not_false, if_true, List.filter_nil]
structure DfI (p : α → Bool) (l : List α) (k q : Nat) (m : List α) : Prop where
  len : m.length = l.length
  kq : k < q
  ql : q ≤ l.length
  pre : m.take k = (l.take q).filter fun x => !p x
  high : ∀ j, q ≤ j → m.getD j default = l.getD j default
theorem DfI.start {k : Nat} (hk : k < l.length) (h1 : p (l.getD k default) = true) (h : ∀ j, j < k → p (l.getD j default) = false) : DfI p l k (k + 1) l :=
  ⟨rfl, by omega, hk, by rw [take_snoc hk, List.filter_append, filter_pre (by omega) h]; simp only [List.filter_cons, h1, Bool.not_true, List.filter_nil, Bool.false_eq_true, if_false, List.append_nil], fun _ _ => rfl⟩
theorem DfI.skip {k q : Nat} {m : List α} (h : DfI p l k q m) (hq : q < l.length) (hp : p (m.getD q default) = true) : DfI p l k (q + 1) m := by
  rw [h.high q (Nat.le_refl _)] at hp
  exact ⟨h.len, by have := h.kq; omega, hq, by rw [take_snoc hq, List.filter_append, ← h.pre]; simp only [List.filter_cons, hp, Bool.not_true, List.filter_nil, Bool.false_eq_true, if_false, List.append_nil], fun j hj => h.high j (by omega)⟩
theorem DfI.keep {k q : Nat} {m : List α} (h : DfI p l k q m) (hq : q < l.length) (hp : p (m.getD q default) = false) : DfI p l (k + 1) (q + 1) (m.set k (m.getD q default)) := by
  have e := h.high q (Nat.le_refl _)
  rw [e] at hp ⊢
  have hk := h.kq
  have hl := h.len
  refine ⟨by simp [hl], by omega, hq, ?_, fun j hj => by rw [getD_set_ne' (by omega)]; exact h.high j (by omega)⟩
  rw [take_snoc (by simp [hl]; omega), getD_set_eq (by omega), take_snoc hq, List.filter_append, ← h.pre]
  simp only [List.filter_cons, hp, Bool.not_false, if_true, List.filter_nil]
  congr 1
  rw [List.take_set, List.set_eq_of_length_le (by simp; omega)]
end
section
variable {p : AS → Bool} {l : List AS}
end
instance : DecidableEq Fd := fun a b => decidable_of_iff (a.lhs = b.lhs ∧ a.rhs = b.rhs) Fd.eq_iff.symm
end Go.Hx
end
section
namespace Go.Hx
def hasI (s : AS) (i : Int) : Bool := decide (0 ≤ i ∧ i < 32) && s.getLsbD i.toNat
theorem hasI_nat {s : AS} {i : Nat} (h : i < 32) : hasI s i = s.getLsbD i := by
  unfold hasI
  rw [decide_eq_true (by omega)]
  simp
theorem has_v {s : AS} {i : Int} (h0 : 0 ≤ i) (h1 : i < 32) : decide (bitV .and .u32 ((asI s).fdiv (2 ^ (min i.toNat 32))) 1 = 1) = hasI s i := by
  unfold hasI
  rw [bShr, show (1 : Int) = asI 1 from rfl, bAnd, decide_eq_true (show 0 ≤ i ∧ i < 32 from ⟨h0, h1⟩), Bool.true_and]
  have e : asI (s >>> i.toNat &&& 1) = asI 1 ↔ s.getLsbD i.toNat = true := by
    rw [asI_inj]
    constructor
    · intro h
      have := congrArg (fun x : AS => x.getLsbD 0) h
      simpa using this
    · intro h
      apply BitVec.eq_of_getLsbD_eq
      intro k hk
      have h1 : (1 : AS).getLsbD k = decide (k = 0) := by have := bit_one 0 k hk; simpa using this
      rw [BitVec.getLsbD_and, BitVec.getLsbD_ushiftRight, h1]
      by_cases hk0 : k = 0
      · subst hk0; simp [h]
      · simp [hk0]
  cases hb : s.getLsbD i.toNat with
  | true => exact decide_eq_true (e.2 hb)
  | false => exact decide_eq_false fun h => by rw [e.1 h] at hb; cases hb
theorem hasI_f {s : AS} {i : Int} (h : ¬ (0 ≤ i ∧ i < 32)) : hasI s i = false := by
  unfold hasI
  rw [decide_eq_false h]
  rfl
theorem fullS_ofNat {n : Nat} (h : n ≤ 32) : fullS n = BitVec.ofNat 32 (2 ^ n - 1) := by
  apply BitVec.eq_of_getLsbD_eq
  intro k hk
  rw [fullS_bit n k hk, BitVec.getLsbD_ofNat, Nat.testBit_two_pow_sub_one]
  simp [hk]
theorem fullS_toNat {n : Nat} (h : n ≤ 32) : (fullS n).toNat = 2 ^ n - 1 := by
  have h2 : 2 ^ n ≤ 2 ^ 32 := Nat.pow_le_pow_right (by omega) h
  have h3 : 0 < 2 ^ n := Nat.two_pow_pos n
  rw [fullS_ofNat h, BitVec.toNat_ofNat, Nat.mod_eq_of_lt (by omega)]
theorem vErr_ok {n : Int} {l : List Fd} (h : vErr n l = 0) : 0 ≤ n ∧ n ≤ 16 ∧ l.length ≤ 64 ∧ l.all (inU n) = true := by
  unfold vErr at h
  split at h
  · cases h
  · split at h
    · cases h
    · split at h
      · rename_i h1 h2 h3
        exact ⟨by omega, by omega, by omega, h3⟩
      · cases h
theorem full_v {n : Int} (h0 : 0 ≤ n) (h1 : n ≤ 16) : IntKind.wrap .u32 (1 * 2 ^ (min n.toNat 32)) - 1 = asI (fullI n) := by
  have h2 : 2 ^ n.toNat ≤ 2 ^ 16 := Nat.pow_le_pow_right (by omega) (by omega)
  have h3 : 0 < 2 ^ n.toNat := Nat.two_pow_pos _
  rw [show IntKind.wrap .u32 (1 * 2 ^ (min n.toNat 32)) = asI ((1 : AS) <<< n.toNat) from bShl 1 n.toNat]
  unfold fullI asI
  rw [Nat.min_eq_left (by omega), fullS_toNat (by omega), BitVec.toNat_shiftLeft, Nat.shiftLeft_eq]
  rw [show (1 : AS).toNat = 1 from rfl, Nat.one_mul, Nat.mod_eq_of_lt (by omega)]
  omega
theorem full_pre {n : Int} (h0 : 0 ≤ n) (h1 : n ≤ 16) : 0 ≤ IntKind.wrap .u32 (1 * 2 ^ (min n.toNat 32)) - 1 := by rw [full_v h0 h1]; exact asI_nn _
theorem full_pre2 {n : Int} (h0 : 0 ≤ n) (h1 : n ≤ 16) : IntKind.wrap .u32 (1 * 2 ^ (min n.toNat 32)) - 1 ≤ 4294967295 := by rw [full_v h0 h1]; have := asI_lt (fullI n); omega
def skey (n : Int) (l : List Fd) (s : AS) : Bool := decide (vErr n l = 0 ∧ sub s (fullI n) ∧ clo l s = fullI n)
section
variable {n : Int} {l : List Fd} {s : AS}
end
def errS (n : Int) (l : List Fd) (m : Int) : Int := if vErr n l = 0 then (if m < n then 3 else 0) else vErr n l
structure Dp where
  l : BitVec 8
  r : BitVec 8
deriving Inhabited
def Dp.c (d : Dp) : Nat → PV
  | 0 => .raw (.int .u8 (d.l.toNat : Int))
  | 1 => .raw (.int .u8 (d.r.toNat : Int))
  | _ => .any
abbrev dpl (l : List Dp) : PV := psl 2 Dp.c l
def Dp.fd (n : Int) (d : Dp) : Fd := ⟨d.l.setWidth 32 &&& fullI n, d.r.setWidth 32 &&& fullI n⟩
theorem u8_and (b : BitVec 8) (t : AS) : bitV .and .u32 (b.toNat : Int) (asI t) = asI (b.setWidth 32 &&& t) := by
  have h := b.isLt
  have e : asI (b.setWidth 32) = (b.toNat : Int) := by
    unfold asI
    rw [BitVec.toNat_setWidth, Nat.mod_eq_of_lt (by omega)]
  rw [← bAnd, e]
end Go.Hx
end
section
namespace Go.Hx
def bsz (s : AS) : Nat := (List.range 32).countP fun i => s.getLsbD i
def bef (a b : AS) : Bool := decide (bsz a < bsz b) || (decide (bsz a = bsz b) && decide (a.toNat < b.toNat))
def Ordd (l : List AS) : Prop := l.Pairwise fun a b => bef a b = true
def insO (x : AS) : List AS → List AS
  | [] => [x]
  | y :: l => if x = y then y :: l else if bef x y = true then x :: y :: l else y :: insO x l
def ord (l : List AS) : List AS := l.foldl (fun o x => insO x o) []
end Go.Hx
end
section
namespace Go.Hx
def membs (s : AS) : List Nat := (List.range 32).filter fun i => s.getLsbD i
def iC : Nat → Nat → PV := fun n _ => .raw (.int .i64 (n : Int))
abbrev il (l : List Nat) : PV := psl 1 iC l
theorem bsz_membs (s : AS) : bsz s = (membs s).length := by unfold bsz membs; rw [List.countP_eq_length_filter]
theorem mem_membs {s : AS} {i : Nat} : i ∈ membs s ↔ i < 32 ∧ s.getLsbD i = true := by simp [membs, List.mem_filter, List.mem_range]
theorem filter_first {p : Nat → Bool} {t : Nat} : ∀ {l : List Nat}, l.Pairwise (· < ·) → t ∈ l → p t = true → (∀ k, k < t → p k = false) → l.filter p = t :: l.filter fun k => decide (k ≠ t) && p k
  | [], _, h, _, _ => by cases h
  | a :: l, hp, hm, h1, h2 => by
    obtain ⟨q1, q2⟩ := List.pairwise_cons.1 hp
    by_cases ha : a = t
    · subst ha
      have e : l.filter p = l.filter fun k => decide (k ≠ a) && p k := by
        apply List.filter_congr
        intro k hk
        have := q1 k hk
        rw [decide_eq_true (by omega), Bool.true_and]
      simp [List.filter_cons, h1, e]
    · have hm' : t ∈ l := by
        rcases List.mem_cons.1 hm with h | h
        · exact absurd h.symm ha
        · exact h
      have := q1 t hm'
      have hpa := h2 a this
      simp [List.filter_cons, hpa, filter_first q2 hm' h1 h2]
def lowB (s : AS) : Nat := Lib.ctz 32 s.toNat
theorem low_spec {s : AS} (h : s ≠ 0) : ∃ m, s.toNat = 2 ^ (lowB s + 1) * m + 2 ^ lowB s ∧ lowB s < 32 := by
  have h0 : s.toNat ≠ 0 := fun e => h (BitVec.eq_of_toNat_eq e)
  obtain ⟨m, h1, h2⟩ := Lib.ctzFrom_spec 32 s.toNat (by omega) s.isLt
  have e : lowB s = Lib.ctzFrom 32 s.toNat := by unfold lowB Lib.ctz; rw [if_neg h0]
  rw [e]
  refine ⟨m, ?_, h2⟩
  rw [Nat.pow_succ]
  rw [h1] at *
  simp only [Nat.mul_add, Nat.mul_assoc, Nat.mul_one] at *
  exact h1
theorem low_bit {s : AS} (h : s ≠ 0) : lowB s < 32 ∧ s.getLsbD (lowB s) = true ∧ (∀ k, k < lowB s → s.getLsbD k = false) ∧ s &&& (s - 1) = s &&& ~~~((1 : AS) <<< lowB s) := by
  obtain ⟨m, h1, h2⟩ := low_spec h
  generalize lowB s = t at *
  have hp : 2 ^ t < 2 ^ (t + 1) := Nat.pow_lt_pow_right (by omega) (by omega)
  have hb : ∀ k, s.getLsbD k = if k < t + 1 then (2 ^ t).testBit k else m.testBit (k - (t + 1)) := fun k => by
    show s.toNat.testBit k = _
    rw [h1, Nat.testBit_two_pow_mul_add _ hp]
  have hq : 0 < 2 ^ t := Nat.two_pow_pos t
  have e1 : (s - 1).toNat = 2 ^ (t + 1) * m + (2 ^ t - 1) := by
    have := s.isLt
    rw [BitVec.toNat_sub]
    show (2 ^ 32 - 1 + s.toNat) % 2 ^ 32 = _
    omega
  have hd : ∀ k, (s - 1).getLsbD k = if k < t + 1 then (2 ^ t - 1).testBit k else m.testBit (k - (t + 1)) := fun k => by
    show (s - 1).toNat.testBit k = _
    rw [e1, Nat.testBit_two_pow_mul_add _ (by omega)]
  refine ⟨h2, ?_, fun k hk => ?_, ?_⟩
  · rw [hb, if_pos (by omega), Nat.testBit_two_pow_self]
  · rw [hb, if_pos (by omega), Nat.testBit_two_pow]
    simp; omega
  · apply BitVec.eq_of_getLsbD_eq
    intro k hk
    rw [BitVec.getLsbD_and, BitVec.getLsbD_and, BitVec.getLsbD_not, bit_one _ _ hk, hd k, hb k]
    by_cases h3 : k < t + 1
    · rw [if_pos h3, if_pos h3, Nat.testBit_two_pow, Nat.testBit_two_pow_sub_one]
      by_cases h4 : k = t
      · subst h4; simp
      · have : ¬ t = k := fun e => h4 e.symm
        simp [this]
    · rw [if_neg h3, if_neg h3]
      have : ¬ k = t := by omega
      simp [hk, this]
theorem low_clear {s : AS} (h : s ≠ 0) (k : Nat) (hk : k < 32) : (s &&& (s - 1)).getLsbD k = (decide (k ≠ lowB s) && s.getLsbD k) := by
  rw [(low_bit h).2.2.2, BitVec.getLsbD_and, BitVec.getLsbD_not, bit_one _ _ hk]
  by_cases e : k = lowB s <;> simp [e, hk, Bool.and_comm]
theorem membs_low {s : AS} (h : s ≠ 0) : membs s = lowB s :: membs (s &&& (s - 1)) := by
  obtain ⟨h1, h2, h3, _⟩ := low_bit h
  unfold membs
  rw [filter_first List.pairwise_lt_range (List.mem_range.2 h1) h2 h3]
  congr 1
  apply List.filter_congr
  intro k hk
  rw [low_clear h k (List.mem_range.1 hk)]
theorem membs_zero : membs 0 = [] := by
  unfold membs
  rw [List.filter_eq_nil_iff]
  intro k _
  simp
theorem low_less {s : AS} (h : s ≠ 0) : (s &&& (s - 1)).toNat < s.toNat := by
  refine sub_lt (sub_bit.2 fun i hi hb => ?_) fun e => ?_
  · rw [low_clear h i hi] at hb
    simp only [Bool.and_eq_true] at hb
    exact hb.2
  · have := low_clear h (lowB s) (low_bit h).1
    rw [e, (low_bit h).2.1] at this
    simp at this
end Go.Hx
end
section
namespace Go.Hx
section
variable {α : Type} [Inhabited α]
theorem arr_app {wr wr' : Bool} {s m : Nat} {e : TypeId} {c : α → Nat → PV} {l l' : List α} {x : α} {g : Nat → Nat → PV} (h : l' = l ++ [x]) (hg : ∀ j, j < s → CoP (g 0 j) (c x j)) (hm : m = 1 := by rfl) (hw : wr' = true → wr = true := by exact fun h => h) :
    CoO (.arr wr s e (l.length + m) (appF l.length (lf c l) g)) (.arr wr' s e l'.length (lf c l')) := by
  subst h
  refine co_app [x] hw hm fun i j hi hj => ?_
  obtain rfl : i = 0 := by simp at hi; exact hi
  exact hg j hj
theorem arr_same {wr wr' : Bool} {s : Nat} {e : TypeId} {c : α → Nat → PV} {l l' : List α} (h : l' = l) (hw : wr' = true → wr = true := by exact fun h => h) : CoO (.arr wr s e l.length (lf c l)) (.arr wr' s e l'.length (lf c l')) := by
  subst h
  exact ⟨hw, rfl, rfl, rfl, fun _ _ _ _ => CoP.refl _⟩
end
section
variable {α : Type} [Inhabited α]
theorem ref_app {id : Nat} {l l' : List α} {x : α} (h : l' = l ++ [x]) : CoR (.v (.one (.ref id (l.length + 1)))) (.v (.one (.ref id l'.length))) := by subst h; rw [List.length_append]; exact CoR.refl _
theorem arr_app1 {wr wr' : Bool} {e : TypeId} {c : α → Nat → PV} {l l' : List α} {x : α} {g : Nat → Nat → PV} (h : l' = l ++ [x]) (hg : CoP (g 0 0) (c x 0)) (hw : wr' = true → wr = true := by exact fun h => h) :
    CoO (.arr wr 1 e (l.length + 1) (appF l.length (lf c l) g)) (.arr wr' 1 e l'.length (lf c l')) :=
  arr_app h (fun j hj => by
    obtain rfl : j = 0 := by omega
    exact hg) rfl hw
theorem arr_app2 {wr wr' : Bool} {e : TypeId} {c : α → Nat → PV} {l l' : List α} {x : α} {g : Nat → Nat → PV} (h : l' = l ++ [x]) (h0 : CoP (g 0 0) (c x 0)) (h1 : CoP (g 0 1) (c x 1)) (hw : wr' = true → wr = true := by exact fun h => h) :
    CoO (.arr wr 2 e (l.length + 1) (appF l.length (lf c l) g)) (.arr wr' 2 e l'.length (lf c l')) :=
  arr_app h (fun j hj => by
    rcases (by omega : j = 0 ∨ j = 1) with rfl | rfl
    · exact h0
    · exact h1) rfl hw
end
def membT (s : AS) (i : Nat) : List Nat := (List.range i).filter fun k => s.getLsbD k
theorem membT_t {s : AS} {i : Nat} (hi : i < 32) (h : hasI s (i : Int) = true) : membT s (i + 1) = membT s i ++ [i] := by
  rw [hasI_nat hi] at h
  unfold membT
  rw [List.range_succ, List.filter_append]
  simp [h]
theorem membT_f {s : AS} {i : Nat} (hi : i < 32) (h : hasI s (i : Int) = false) : membT s (i + 1) = membT s i := by
  rw [hasI_nat hi] at h
  unfold membT
  rw [List.range_succ, List.filter_append]
  simp [h]
end Go.Hx
end
section
namespace Go.Hx
abbrev Rw := List Int
def ltZ : Rw → Rw → Bool
  | [], [] => false
  | [], _ :: _ => true
  | _ :: _, [] => false
  | x :: a, y :: b => if x = y then ltZ a b else decide (x < y)
theorem ltZ_irr : ∀ a : Rw, ltZ a a = false
  | [] => rfl
  | x :: a => by unfold ltZ; rw [if_pos rfl]; exact ltZ_irr a
theorem ltZ_trans : ∀ {a b c : Rw}, ltZ a b = true → ltZ b c = true → ltZ a c = true
  | [], [], _, h, _ => by cases h
  | [], _ :: _, [], _, k => by cases k
  | [], _ :: _, _ :: _, _, _ => rfl
  | _ :: _, [], _, h, _ => by cases h
  | _ :: _, _ :: _, [], _, k => by cases k
  | x :: a, y :: b, z :: c, h, k => by
    unfold ltZ at *
    by_cases hxy : x = y
    · rw [if_pos hxy] at h
      subst hxy
      by_cases hyz : x = z
      · rw [if_pos hyz] at k ⊢
        exact ltZ_trans h k
      · rw [if_neg hyz] at k ⊢
        exact k
    · rw [if_neg hxy] at h
      have h := of_decide_eq_true h
      by_cases hyz : y = z
      · subst hyz
        rw [if_neg hxy]
        exact decide_eq_true h
      · rw [if_neg hyz] at k
        have k := of_decide_eq_true k
        rw [if_neg (by omega)]
        exact decide_eq_true (by omega)
theorem ltZ_tri : ∀ {a b : Rw}, a ≠ b → ltZ a b = true ∨ ltZ b a = true
  | [], [], h => absurd rfl h
  | [], _ :: _, _ => .inl rfl
  | _ :: _, [], _ => .inr rfl
  | x :: a, y :: b, h => by
    unfold ltZ
    by_cases hxy : x = y
    · subst hxy
      rw [if_pos rfl, if_pos rfl]
      exact ltZ_tri fun e => h (by rw [e])
    · rw [if_neg hxy, if_neg (Ne.symm hxy), decide_eq_true_iff, decide_eq_true_iff]
      omega
def zC : Int → Nat → PV := fun z _ => .raw (.int .i64 z)
abbrev zl (r : Rw) : PV := psl 1 zC r
def rC : Rw → Nat → PV := fun r _ => zl r
abbrev rl (l : List Rw) : PV := psl 1 rC l
theorem ltZ_asym {a b : Rw} (h : ltZ a b = true) : ltZ b a = false := by
  rw [Bool.eq_false_iff]
  intro k
  have := ltZ_trans h k
  rw [ltZ_irr] at this
  cases this
def OrdZ (l : List Rw) : Prop := l.Pairwise fun a b => ltZ a b = true
theorem ordZ_unique : ∀ {l k : List Rw}, OrdZ l → OrdZ k → (∀ x, x ∈ l ↔ x ∈ k) → l = k
  | [], [], _, _, _ => rfl
  | [], y :: k, _, _, h => absurd ((h y).2 (List.mem_cons_self ..)) (by simp)
  | x :: l, [], _, _, h => absurd ((h x).1 (List.mem_cons_self ..)) (by simp)
  | x :: l, y :: k, hl, hk, h => by
    obtain ⟨h1, h2⟩ := List.pairwise_cons.1 hl
    obtain ⟨k1, k2⟩ := List.pairwise_cons.1 hk
    have e : x = y := by
      rcases List.mem_cons.1 ((h x).1 (List.mem_cons_self ..)) with e | hx
      · exact e
      · rcases List.mem_cons.1 ((h y).2 (List.mem_cons_self ..)) with e | hy
        · exact e.symm
        · have := ltZ_asym (k1 x hx)
          rw [h1 y hy] at this
          cases this
    subst e
    congr 1
    refine ordZ_unique h2 k2 fun z => ?_
    constructor
    · intro hz
      rcases List.mem_cons.1 ((h z).1 (List.mem_cons_of_mem _ hz)) with e | hz'
      · subst e
        have := h1 z hz
        rw [ltZ_irr] at this
        cases this
      · exact hz'
    · intro hz
      rcases List.mem_cons.1 ((h z).2 (List.mem_cons_of_mem _ hz)) with e | hz'
      · subst e
        have := k1 z hz
        rw [ltZ_irr] at this
        cases this
      · exact hz'
def insZ (x : Rw) : List Rw → List Rw
  | [] => [x]
  | y :: l => if x = y then y :: l else if ltZ x y = true then x :: y :: l else y :: insZ x l
theorem mem_insZ {x z : Rw} : ∀ {l : List Rw}, z ∈ insZ x l ↔ z = x ∨ z ∈ l
  | [] => by simp [insZ]
  | y :: l => by
    unfold insZ
    split
    · rename_i e
      subst e
      simp
    · split
      · simp
      · rw [List.mem_cons, mem_insZ, List.mem_cons]
        constructor
        · rintro (h | h | h) <;> simp [h]
        · rintro (h | h | h) <;> simp [h]
theorem ordZ_insZ {x : Rw} : ∀ {l : List Rw}, OrdZ l → OrdZ (insZ x l)
  | [], _ => by simp [insZ, OrdZ]
  | y :: l, h => by
    obtain ⟨h1, h2⟩ := List.pairwise_cons.1 h
    unfold insZ
    split
    · exact h
    · split
      · rename_i hxy
        refine List.pairwise_cons.2 ⟨fun z hz => ?_, h⟩
        rcases List.mem_cons.1 hz with rfl | hz
        · exact hxy
        · exact ltZ_trans hxy (h1 z hz)
      · rename_i hne hxy
        refine List.pairwise_cons.2 ⟨fun z hz => ?_, ordZ_insZ h2⟩
        rcases mem_insZ.1 hz with rfl | hz
        · exact (ltZ_tri hne).resolve_left hxy
        · exact h1 z hz
def canon (l : List Rw) : List Rw := l.foldl (fun o x => insZ x o) []
theorem canon_aux : ∀ {l o : List Rw}, OrdZ o → OrdZ (l.foldl (fun o x => insZ x o) o) ∧ ∀ z, z ∈ l.foldl (fun o x => insZ x o) o ↔ z ∈ o ∨ z ∈ l
  | [], o, h => ⟨h, fun z => by simp⟩
  | x :: l, o, h => by
    obtain ⟨h1, h2⟩ := canon_aux (l := l) (ordZ_insZ (x := x) h)
    refine ⟨h1, fun z => ?_⟩
    show z ∈ l.foldl (fun o x => insZ x o) (insZ x o) ↔ _
    rw [h2 z, mem_insZ, List.mem_cons]
    constructor
    · rintro ((h | h) | h) <;> simp [h]
    · rintro (h | h | h) <;> simp [h]
theorem ordZ_canon (l : List Rw) : OrdZ (canon l) := (canon_aux (o := []) List.Pairwise.nil).1
theorem mem_canon {l : List Rw} {z : Rw} : z ∈ canon l ↔ z ∈ l := by
  show z ∈ l.foldl (fun o x => insZ x o) [] ↔ _
  rw [(canon_aux (l := l) (o := []) List.Pairwise.nil).2 z]
  simp
theorem canon_eq {l k : List Rw} (hk : OrdZ k) (h : ∀ z, z ∈ k ↔ z ∈ l) : k = canon l := ordZ_unique hk (ordZ_canon l) fun z => by rw [h z, mem_canon]
def insW (l : List Rw) (k : Nat) (r : Rw) : List Rw := l.take k ++ r :: l.drop k
theorem insW_len {l : List Rw} {k : Nat} {r : Rw} (h : k ≤ l.length) : (insW l k r).length = l.length + 1 := by simp [insW]; omega
theorem insW_end {l : List Rw} {r : Rw} : insW l l.length r = l ++ [r] := by simp [insW]
theorem insW_get {l : List Rw} {k i : Nat} {r : Rw} (h : k ≤ l.length) : (insW l k r)[i]? = if i < k then l[i]? else if i = k then some r else l[i - 1]? := by
  simp only [insW]
  by_cases h1 : i < k
  · rw [if_pos h1, List.getElem?_append_left (by simp; omega), List.getElem?_take, if_pos h1]
  · rw [if_neg h1, List.getElem?_append_right (by simp; omega), List.length_take, Nat.min_eq_left h]
    by_cases h2 : i = k
    · subst h2; simp
    · rw [if_neg h2]
      obtain ⟨d, rfl⟩ : ∃ d, i = k + 1 + d := ⟨i - k - 1, by omega⟩
      rw [show k + 1 + d - k = d + 1 by omega, List.getElem?_cons_succ, List.getElem?_drop]
      congr 1
      omega
theorem insW_k {l : List Rw} {k : Nat} {r : Rw} (h : k ≤ l.length) : (insW l k r).getD k default = r := by
  rw [List.getD_eq_getElem?_getD, insW_get h, if_neg (by omega), if_pos rfl]; rfl
theorem insW_pred {l : List Rw} {k : Nat} {r : Rw} (h0 : 0 < k) (h : k ≤ l.length) : (insW l k r).getD (k - 1) default = l.getD (k - 1) default := by
  rw [List.getD_eq_getElem?_getD, insW_get h, if_pos (by omega), List.getD_eq_getElem?_getD]
theorem insW_swap {l : List Rw} {k : Nat} {r : Rw} (h0 : 0 < k) (h : k ≤ l.length) : ((insW l k r).set k (l.getD (k - 1) default)).set (k - 1) r = insW l (k - 1) r := by
  apply List.ext_getElem?
  intro i
  rw [insW_get (by omega), List.getElem?_set, List.getElem?_set, List.length_set, insW_len h, insW_get h]
  by_cases h1 : k - 1 = i
  · subst h1
    rw [if_pos rfl, if_pos (by omega), if_neg (by omega), if_pos rfl]
  · rw [if_neg h1]
    by_cases h2 : k = i
    · subst h2
      rw [if_pos rfl, if_pos (by omega), if_neg (by omega), if_neg (by omega), List.getD, List.getElem?_eq_getElem (by omega)]
      rfl
    · rw [if_neg h2]
      by_cases h3 : i < k
      · rw [if_pos h3, if_pos (by omega)]
      · rw [if_neg h3, if_neg (by omega), if_neg (by omega), if_neg (by omega)]
theorem swap_insW {l : List Rw} {k k' m' : Nat} {r : Rw} (h0 : 0 < k) (hk : k ≤ l.length) (hk' : k' = k) (hm' : m' = k - 1) {n : Nat} (hn : n = l.length + 1) {e : TypeId} :
    CoO (.arr true 1 e n (setEl (setEl (lf rC (insW l k r)) k' 0 [lf rC (insW l k r) m' 0]) m' 0 [lf rC (insW l k r) k' 0])) (.arr true 1 e n (lf rC (insW l (k - 1) r))) := by
  subst hk' hm'
  rw [← insW_swap h0 hk]
  refine swap_co (fun h => h) (by rw [insW_len hk]; exact hn) (by rw [insW_len hk]; omega) (by rw [insW_len hk]; omega) rfl rfl (fun j hj => ?_) (fun j hj => ?_)
  · obtain rfl : j = 0 := by omega
    exact CoP.of_eq (by show rC ((insW l k' r).getD (k' - 1) default) 0 = _; rw [insW_pred h0 hk])
  · obtain rfl : j = 0 := by omega
    exact CoP.of_eq (by show rC ((insW l k' r).getD k' default) 0 = _; rw [insW_k hk])
theorem ltZ_at {l : List Rw} {k k' m' : Nat} {r : Rw} {b : Bool} (h0 : 0 < k) (hk : k ≤ l.length) (h : ltZ ((insW l k r).getD k' default) ((insW l k r).getD m' default) = b) (hk' : k' = k) (hm' : m' = k - 1) : ltZ r (l.getD (k - 1) default) = b := by
  subst hk' hm'
  rwa [insW_k hk, insW_pred h0 hk] at h
theorem getZ_mem {l : List Rw} {j : Nat} (h : j < l.length) : l.getD j default ∈ l := by
  rw [List.getD_eq_getElem?_getD, List.getElem?_eq_getElem h]
  exact List.getElem_mem h
theorem insW_insZ {l : List Rw} {k : Nat} {r : Rw} (hs : OrdZ l) (hr : r ∉ l) (hk : k ≤ l.length) (h1 : ∀ j, k ≤ j → j < l.length → ltZ r (l.getD j default) = true) (h2 : k = 0 ∨ ¬ ltZ r (l.getD (k - 1) default) = true) : insW l k r = insZ r l := by
  refine ordZ_unique ?_ (ordZ_insZ hs) fun z => ?_
  · unfold OrdZ insW
    rw [List.pairwise_append]
    refine ⟨hs.sublist (List.take_sublist _ _), List.pairwise_cons.2 ⟨fun z hz => ?_, hs.sublist (List.drop_sublist _ _)⟩, fun y hy z hz => ?_⟩
    · obtain ⟨j, hj, rfl⟩ := List.getElem_of_mem hz
      rw [List.length_drop] at hj
      have := h1 (k + j) (by omega) (by omega)
      rwa [List.getD_eq_getElem?_getD, List.getElem?_eq_getElem (by omega), Option.getD_some, ← List.getElem_drop] at this
    · have hyr : ltZ y r = true := by
        obtain ⟨j, hj, rfl⟩ := List.getElem_of_mem hy
        rw [List.length_take] at hj
        rcases h2 with h2 | h2
        · omega
        · have hk1 : k - 1 < l.length := by omega
          have hlast : ltZ (l.getD (k - 1) default) r = true := by
            rcases ltZ_tri (a := r) (b := l.getD (k - 1) default) (fun e => hr (e ▸ getZ_mem hk1)) with h | h
            · exact absurd h h2
            · exact h
          rw [List.getElem_take]
          by_cases hjk : j = k - 1
          · subst hjk
            rwa [List.getD_eq_getElem?_getD, List.getElem?_eq_getElem hk1, Option.getD_some] at hlast
          · refine ltZ_trans ?_ hlast
            rw [List.getD_eq_getElem?_getD, List.getElem?_eq_getElem hk1, Option.getD_some]
            exact List.pairwise_iff_getElem.1 hs j (k - 1) (by omega) hk1 (by omega)
      rcases List.mem_cons.1 hz with rfl | hz
      · exact hyr
      · have h3 : ltZ r z = true := by
          obtain ⟨j, hj, rfl⟩ := List.getElem_of_mem hz
          rw [List.length_drop] at hj
          have := h1 (k + j) (by omega) (by omega)
          rwa [List.getD_eq_getElem?_getD, List.getElem?_eq_getElem (by omega), Option.getD_some, ← List.getElem_drop] at this
        exact ltZ_trans hyr h3
  · rw [mem_insZ]
    unfold insW
    rw [List.mem_append, List.mem_cons]
    constructor
    · rintro (h | h | h)
      · exact .inr (List.mem_of_mem_take h)
      · exact .inl h
      · exact .inr (List.mem_of_mem_drop h)
    · rintro (h | h)
      · exact .inr (.inl h)
      · rw [← List.take_append_drop k l, List.mem_append] at h
        rcases h with h | h
        · exact .inl h
        · exact .inr (.inr h)
theorem insZ_mem {r : Rw} {l : List Rw} (hs : OrdZ l) (hr : r ∈ l) : insZ r l = l := ordZ_unique (ordZ_insZ hs) hs fun z => by
  rw [mem_insZ]
  constructor
  · rintro (rfl | h)
    · exact hr
    · exact h
  · exact .inr
theorem canon_take {l : List Rw} {i : Nat} (hi : i < l.length) : canon (l.take (i + 1)) = insZ (l.getD i default) (canon (l.take i)) := by
  unfold canon
  rw [take_snoc hi, List.foldl_append]
  rfl
theorem insZ_len (x : Rw) : ∀ l : List Rw, (insZ x l).length ≤ l.length + 1
  | [] => by simp [insZ]
  | y :: l => by
    unfold insZ
    have := insZ_len x l
    split
    · simp
    · split
      · simp
      · simp only [List.length_cons]; omega
theorem canon_len (l : List Rw) : (canon l).length ≤ l.length := by
  have : ∀ (l o : List Rw), (l.foldl (fun o x => insZ x o) o).length ≤ o.length + l.length := by
    intro l
    induction l with
    | nil => intro o; simp
    | cons x l ih =>
      intro o
      have h1 := ih (insZ x o)
      have h2 := insZ_len x o
      simp only [List.foldl_cons, List.length_cons]
      omega
  have h := this l []
  simpa [canon] using h
end Go.Hx
end
section
namespace Go.Hx
open Go.Proofs
set_option maxRecDepth 100000
theorem good45 : goodFn Tryd.prog 45 := ⟨Tryd.f45, Tryd.func45, by kernel_rfl, by kernel_rfl⟩
theorem cHas (s : AS) (i : Int) : HPure Tryd.prog 45 [pA s, pI i] (prOf [pB (hasI s i)]) := by
  refine hpure_of (nt := 18) Trydok Tryd.func45 rfl rfl (Nat.le_of_ble_eq_true rfl) ?_; refine hw_seq ?_; refine hw_region (E := TrydE) Trydok ?_; refine rq rfl rfl rfl rfl rfl ?_; refine rg_nil ?_; show HW _ _ _ _ _
  refine hw_seq ?_; refine hw_region (E := TrydE) Trydok ?_; (iterate 3 refine rq rfl rfl rfl rfl rfl ?_); refine rsplit rfl rfl (fun r0 => ?_) (fun r0 => ?_)
  · skip
    have h0 := r0
    have h0 := of_decide_eq_true h0
    try simp only [Int.toNat_natCast] at h0
    (iterate 2 refine rq rfl rfl rfl rfl (gtt r0) ?_); (iterate 2 refine rq rfl rfl rfl rfl rfl ?_); refine rsplit rfl rfl (fun r1 => ?_) (fun r1 => ?_)
    · skip
      have h1 := r1
      have h1 := bif_t r0 h1
      have h1 := of_decide_eq_true h1
      try simp only [Int.toNat_natCast] at h1
      (iterate 5 refine rq rfl rfl rfl rfl (gtt r1) ?_); (iterate 2 refine rq rfl rfl rfl rfl rfl ?_); refine rg_nil ?_; show HW _ _ _ _ _; refine hw_ret ?_; refine ⟨.inr rfl, ?_⟩
      exact ⟨_, _, _, _, rfl, (by (repeat' apply And.intro) <;> first | trivial | exact Nat.le_of_ble_eq_true rfl | rfl), rfl, (by (repeat' apply And.intro) <;> first | trivial | exact Nat.le_of_ble_eq_true rfl | rfl), ⟨ccb (by first | exact bif_tk (by assumption) (has_v (by omega) (by omega)) | exact (hasI_f (by omega)).symm), trivial⟩⟩
    · skip
      have h1 := r1
      have h1 := bif_t r0 h1
      have h1 := of_decide_eq_false h1
      try simp only [Int.toNat_natCast] at h1
      (iterate 5 refine rk rfl rfl rfl (gft r1) ?_); refine rq rfl rfl rfl rfl rfl ?_ (hp := r1); refine rq rfl rfl rfl rfl rfl ?_; refine rg_nil ?_; show HW _ _ _ _ _; refine hw_ret ?_; refine ⟨.inr rfl, ?_⟩
      exact ⟨_, _, _, _, rfl, (by (repeat' apply And.intro) <;> first | trivial | exact Nat.le_of_ble_eq_true rfl | rfl), rfl, (by (repeat' apply And.intro) <;> first | trivial | exact Nat.le_of_ble_eq_true rfl | rfl), ⟨ccb (by first | exact bif_tk (by assumption) (has_v (by omega) (by omega)) | exact (hasI_f (by omega)).symm), trivial⟩⟩
  · skip
    have h0 := r0
    have h0 := of_decide_eq_false h0
    try simp only [Int.toNat_natCast] at h0
    (iterate 2 refine rk rfl rfl rfl (gft r0) ?_); refine rq rfl rfl rfl rfl rfl ?_ (hp := r0); refine rq rfl rfl rfl rfl rfl ?_; (iterate 5 refine rk rfl rfl rfl rfl ?_); (iterate 2 refine rq rfl rfl rfl rfl rfl ?_)
    refine rg_nil ?_; show HW _ _ _ _ _; refine hw_ret ?_; refine ⟨.inr rfl, ?_⟩
    exact ⟨_, _, _, _, rfl, (by (repeat' apply And.intro) <;> first | trivial | exact Nat.le_of_ble_eq_true rfl | rfl), rfl, (by (repeat' apply And.intro) <;> first | trivial | exact Nat.le_of_ble_eq_true rfl | rfl), ⟨ccb (by first | exact bif_tk (by assumption) (has_v (by omega) (by omega)) | exact (hasI_f (by omega)).symm), trivial⟩⟩
end Go.Hx
end
