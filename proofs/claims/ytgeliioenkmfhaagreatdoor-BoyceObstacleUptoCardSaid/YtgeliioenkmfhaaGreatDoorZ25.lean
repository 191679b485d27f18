/- A part of the proof: lemmas for the theorem of this claim, merged by a program of ours out of Cs15, V13, Cs16, V14. -/
import Derived.Test.YtgeliioenkmfhaaGreatDoorZ24
set_option linter.all false
section
namespace Go.Hx
theorem and_halves (a b : Nat) : a &&& b = 2 * (a / 2 &&& b / 2) + (a % 2 &&& b % 2) := by
  have h1 := Nat.div_add_mod (a &&& b) 2
  have h2 : (a &&& b) % 2 = a % 2 &&& b % 2 := by
    have := Nat.and_mod_two_pow (a := a) (b := b) (n := 1)
    simpa using this
  rw [Nat.and_div_two, h2] at h1
  exact h1.symm
theorem bit_and (a b : Nat) : (a % 2 &&& b % 2) = if a % 2 = 1 ∧ b % 2 = 1 then 1 else 0 := by
  rcases Nat.mod_two_eq_zero_or_one a with h | h <;> rcases Nat.mod_two_eq_zero_or_one b with k | k <;> rw [h, k] <;> rfl
theorem in_halves {x s : Nat} (h : x &&& s = x) : (x / 2 &&& s / 2 = x / 2) ∧ (x % 2 = 1 → s % 2 = 1) := by
  have h1 := and_halves x s
  rw [h, bit_and] at h1
  split at h1 <;> rename_i hc
  · exact ⟨by omega, fun _ => hc.2⟩
  · exact ⟨by omega, fun hx => by omega⟩
theorem pred_top : ∀ (x s z : Nat), x &&& s = x → z &&& s = z → z < x → z ≤ ((x - 1) &&& s) := by
  intro x
  induction x using Nat.strongRecOn with
  | _ x ih =>
    intro s z hx hz hlt
    obtain ⟨x1, x2⟩ := in_halves hx
    obtain ⟨z1, z2⟩ := in_halves hz
    rw [and_halves (x - 1) s, bit_and]
    rcases Nat.mod_two_eq_zero_or_one x with hb | hb
    · have e1 : (x - 1) / 2 = x / 2 - 1 := by omega
      have e2 : (x - 1) % 2 = 1 := by omega
      have := ih (x / 2) (by omega) (s / 2) (z / 2) x1 z1 (by omega)
      rw [e1, e2]
      by_cases hs : s % 2 = 1
      · rw [if_pos ⟨rfl, hs⟩]; omega
      · rw [if_neg (fun h => hs h.2)]
        have : z % 2 = 0 := by omega
        omega
    · have e1 : (x - 1) / 2 = x / 2 := by omega
      have e2 : (x - 1) % 2 = 0 := by omega
      rw [e1, e2, x1, if_neg (by omega)]
      omega
theorem comp_in : ∀ (w y s : Nat), y &&& s = y → s < 2 ^ w → ((2 ^ w - 1 - y) &&& s) = s - y := by
  intro w
  induction w with
  | zero => intro y s h hs; obtain rfl : s = 0 := (by simpa using hs); simp
  | succ w ih =>
    intro y s h hs
    obtain ⟨y1, y2⟩ := in_halves h
    have hle : y ≤ s := by rw [← h]; exact Nat.and_le_right
    rw [Nat.pow_succ] at hs ⊢
    have hp := Nat.two_pow_pos w
    have := ih (y / 2) (s / 2) y1 (by omega)
    have hle2 : y / 2 ≤ s / 2 := by omega
    rw [and_halves, bit_and, show (2 ^ w * 2 - 1 - y) / 2 = 2 ^ w - 1 - y / 2 by omega, this]
    split <;> omega
theorem sub_in {y s : Nat} (h : y &&& s = y) : (s - y) &&& s = s - y := by
  rw [← comp_in s y s h Nat.lt_two_pow_self, Nat.and_assoc, Nat.and_self]
theorem next_eq {w x s : Nat} (hx : x &&& s = x) (hs : s < 2 ^ w) (hne : x < s) : ((2 ^ w + x - s) &&& s) = s - ((s - x - 1) &&& s) := by
  have h1 : ((s - x - 1) &&& s) &&& s = (s - x - 1) &&& s := by rw [Nat.and_assoc, Nat.and_self]
  rw [← comp_in w _ s h1 hs]
  have hp := Nat.two_pow_pos w
  apply Nat.eq_of_testBit_eq
  intro i
  have hlt : s - x - 1 < 2 ^ w := by omega
  have hlt2 : ((s - x - 1) &&& s) < 2 ^ w := Nat.lt_of_le_of_lt Nat.and_le_left hlt
  rw [Nat.testBit_and, Nat.testBit_and, show 2 ^ w + x - s = 2 ^ w - (s - x - 1 + 1) by omega, Nat.testBit_two_pow_sub_succ hlt, show 2 ^ w - 1 - ((s - x - 1) &&& s) = 2 ^ w - (((s - x - 1) &&& s) + 1) by omega, Nat.testBit_two_pow_sub_succ hlt2, Nat.testBit_and]
  cases s.testBit i <;> simp
theorem next_top {w x s z : Nat} (hx : x &&& s = x) (hs : s < 2 ^ w) (hz : z &&& s = z) (hlt : x < z) : ((2 ^ w + x - s) &&& s) ≤ z ∧ x < ((2 ^ w + x - s) &&& s) := by
  have hzs : z ≤ s := by rw [← hz]; exact Nat.and_le_right
  rw [next_eq hx hs (by omega)]
  have h1 := pred_top (s - x) s (s - z) (sub_in hx) (sub_in hz) (by omega)
  have h2 : ((s - x - 1) &&& s) ≤ s - x - 1 := Nat.and_le_left
  omega
theorem subN {z s : AS} : sub z s ↔ z.toNat &&& s.toNat = z.toNat := by
  rw [← BitVec.toNat_and, BitVec.toNat_inj, sub_bit]
  constructor
  · intro h
    apply BitVec.eq_of_getLsbD_eq
    intro k hk
    rw [BitVec.getLsbD_and]
    cases hz : z.getLsbD k with
    | false => rfl
    | true => rw [h k hk hz]; rfl
  · intro h i _ hi
    rw [← h, BitVec.getLsbD_and] at hi
    simp at hi
    exact hi.2
theorem sub_bsz {z s : AS} (h : sub z s) : bsz z ≤ bsz s := by
  unfold bsz
  apply List.countP_mono_left
  intro i hi hb
  exact sub_bit.1 h i (List.mem_range.1 hi) hb
def downS (s : AS) : Nat → AS → List AS
  | 0, _ => []
  | n + 1, x => x :: if x = 0 then [] else downS s n ((x - 1) &&& s)
theorem pred_nat {x : AS} (h : x ≠ 0) : (x - 1).toNat = x.toNat - 1 := by
  have h0 : x.toNat ≠ 0 := fun e => h (BitVec.eq_of_toNat_eq e)
  have := x.isLt
  rw [BitVec.toNat_sub]
  show (2 ^ 32 - 1 + x.toNat) % 2 ^ 32 = _
  omega
theorem pred_sub {x s : AS} : sub ((x - 1) &&& s) s := by
  rw [subN, BitVec.toNat_and, Nat.and_assoc, Nat.and_self]
theorem pred_lt {x s : AS} (h : x ≠ 0) : ((x - 1) &&& s).toNat < x.toNat := by
  have h0 : x.toNat ≠ 0 := fun e => h (BitVec.eq_of_toNat_eq e)
  rw [BitVec.toNat_and, pred_nat h]
  have : ((x.toNat - 1) &&& s.toNat) ≤ x.toNat - 1 := Nat.and_le_left
  omega
theorem pred_max {x s z : AS} (hx : sub x s) (hz : sub z s) (h : z.toNat < x.toNat) : z.toNat ≤ ((x - 1) &&& s).toNat := by
  have h0 : x ≠ 0 := fun e => by subst e; exact absurd h (Nat.not_lt_zero _)
  rw [BitVec.toNat_and, pred_nat h0]
  exact pred_top _ _ _ (subN.1 hx) (subN.1 hz) h
theorem mem_down {s : AS} : ∀ (n : Nat) (x : AS), sub x s → x.toNat < n → ∀ z, z ∈ downS s n x ↔ sub z s ∧ z.toNat ≤ x.toNat
  | 0, x, _, h, z => absurd h (Nat.not_lt_zero _)
  | n + 1, x, hx, h, z => by
    unfold downS
    by_cases h0 : x = 0
    · rw [if_pos h0, List.mem_singleton]
      subst h0
      constructor
      · rintro rfl; exact ⟨hx, Nat.le_refl _⟩
      · rintro ⟨_, h⟩
        exact BitVec.eq_of_toNat_eq (Nat.le_antisymm h (Nat.zero_le _))
    · rw [if_neg h0, List.mem_cons, mem_down n _ pred_sub (by have := pred_lt (s := s) h0; omega)]
      constructor
      · rintro (rfl | ⟨h1, h2⟩)
        · exact ⟨hx, Nat.le_refl _⟩
        · have := pred_lt (s := s) h0
          exact ⟨h1, by omega⟩
      · rintro ⟨h1, h2⟩
        by_cases he : z = x
        · exact .inl he
        · have hne : z.toNat ≠ x.toNat := fun e => he (BitVec.eq_of_toNat_eq e)
          exact .inr ⟨h1, pred_max hx h1 (by omega)⟩
def subsL (s : AS) : List AS := ord (downS s (s.toNat + 1) s)
theorem sub_self (s : AS) : sub s s := by rw [subN, Nat.and_self]
theorem subLe {z s : AS} (h : sub z s) : z.toNat ≤ s.toNat := by rw [← subN.1 h]; exact Nat.and_le_right
theorem mem_subsL {s z : AS} : z ∈ subsL s ↔ sub z s := by
  unfold subsL
  rw [mem_ord, mem_down _ _ (sub_self s) (Nat.lt_succ_self _)]
  exact ⟨fun h => h.1, fun h => ⟨h, subLe h⟩⟩
theorem subsL_eq {l : List AS} {s : AS} (ho : Ordd l) (h : ∀ z, z ∈ l ↔ sub z s) : l = subsL s := ordd_unique ho (ordd_ord _) fun z => by rw [h z]; exact mem_subsL.symm
def subsC (s : AS) : List AS := if 12 < bsz s then [] else subsL s
theorem subsC_t {s : AS} (h : (12 : Int) < bsz s) : subsC s = [] := if_pos (by omega)
theorem subsC_f {s : AS} (h : ¬ (12 : Int) < bsz s) : subsC s = subsL s := if_neg (by omega)
def DownI (s : AS) (y : List AS × AS) : Prop := sub y.2 s ∧ y.1.length + y.2.toNat ≤ s.toNat + 1 ∧ ∀ z, z ∈ y.1 ↔ sub z s ∧ y.2.toNat ≤ z.toNat
theorem down_zero (s : AS) : DownI s ([s], s) := ⟨sub_self s, by simp only [List.length_singleton]; omega, fun z => by
  rw [List.mem_singleton]
  constructor
  · rintro rfl; exact ⟨sub_self _, Nat.le_refl _⟩
  · rintro ⟨h1, h2⟩; exact BitVec.eq_of_toNat_eq (Nat.le_antisymm (subLe h1) h2)⟩
theorem down_next {s : AS} {y : List AS × AS} (h : DownI s y) (h0 : y.2 ≠ 0) : DownI s (y.1 ++ [(y.2 - 1) &&& s], (y.2 - 1) &&& s) := by
  obtain ⟨h1, h2, h3⟩ := h
  have hl := pred_lt (s := s) h0
  refine ⟨pred_sub, by simp only [List.length_append, List.length_singleton]; omega, fun z => ?_⟩
  rw [List.mem_append, List.mem_singleton, h3]
  constructor
  · rintro (⟨k1, k2⟩ | rfl)
    · exact ⟨k1, by dsimp only; omega⟩
    · exact ⟨pred_sub, Nat.le_refl _⟩
  · rintro ⟨k1, k2⟩
    dsimp only at k2
    by_cases hz : y.2.toNat ≤ z.toNat
    · exact .inl ⟨k1, hz⟩
    · have := pred_max h1 k1 (by omega)
      exact .inr (BitVec.eq_of_toNat_eq (by omega))
theorem down_end {s : AS} {y : List AS × AS} (h : DownI s y) (h0 : y.2 = 0) : ord y.1 = subsL s := subsL_eq (ordd_ord _) fun z => by
  rw [mem_ord, h.2.2, h0]
  exact ⟨fun h => h.1, fun h => ⟨h, Nat.zero_le _⟩⟩
def nxt (x s : Nat) : Nat := if x = s then s + 1 else ((2 ^ 64 + x - s) &&& s)
def UpI (s : AS) (k : Nat) (y : List AS × Nat) : Prop :=
  (y.2 = s.toNat + 1 ∨ y.2 &&& s.toNat = y.2) ∧ y.1.length ≤ k * 4294967296 + y.2 ∧ Ordd y.1 ∧ ∀ z, z ∈ y.1 ↔ sub z s ∧ (bsz z < k ∨ bsz z = k ∧ z.toNat < y.2)
theorem nxt_step {x s : Nat} (hs : s < 2 ^ 32) (hx : x &&& s = x) : x < nxt x s ∧ (nxt x s = s + 1 ∨ nxt x s &&& s = nxt x s) ∧ ∀ z, z &&& s = z → x < z → nxt x s ≤ z := by
  have hle : x ≤ s := by rw [← hx]; exact Nat.and_le_right
  have hs' : s < 2 ^ 64 := Nat.lt_trans hs (by decide)
  unfold nxt
  by_cases he : x = s
  · rw [if_pos he]
    refine ⟨by omega, .inl rfl, fun z hz hlt => ?_⟩
    have : z ≤ s := by rw [← hz]; exact Nat.and_le_right
    omega
  · rw [if_neg he]
    refine ⟨(next_top hx hs' (Nat.and_self s) (by omega)).2, .inr (by rw [Nat.and_assoc, Nat.and_self]), fun z hz hlt => (next_top hx hs' hz hlt).1⟩
theorem up_in {s : AS} {k : Nat} {y : List AS × Nat} (h : UpI s k y) (hy : y.2 ≤ s.toNat) : y.2 &&& s.toNat = y.2 := by
  rcases h.1 with h | h
  · omega
  · exact h
theorem up_lt {s : AS} {k : Nat} {y : List AS × Nat} (h : UpI s k y) : y.2 ≤ s.toNat + 1 := by
  rcases h.1 with h | h
  · omega
  · have : y.2 ≤ s.toNat := by rw [← h]; exact Nat.and_le_right
    omega
theorem up_nat {s : AS} {k : Nat} {y : List AS × Nat} (h : UpI s k y) (hy : y.2 ≤ s.toNat) : (BitVec.ofNat 32 y.2).toNat = y.2 := by
  have := s.isLt
  rw [BitVec.toNat_ofNat, Nat.mod_eq_of_lt (by omega)]
theorem up_t {s : AS} {k : Nat} {y : List AS × Nat} (h : UpI s k y) (hy : y.2 ≤ s.toNat) (hk : bsz (BitVec.ofNat 32 y.2) = k) : UpI s k (y.1 ++ [BitVec.ofNat 32 y.2], nxt y.2 s.toNat) := by
  have hn := up_nat h hy
  obtain ⟨s1, s2, s3⟩ := nxt_step s.isLt (up_in h hy)
  have hsub : sub (BitVec.ofNat 32 y.2) s := subN.2 (by rw [hn]; exact up_in h hy)
  obtain ⟨h1, h2, h3, h4⟩ := h
  refine ⟨s2, by simp only [List.length_append, List.length_singleton]; omega, ?_, fun z => ?_⟩
  · refine List.pairwise_append.2 ⟨h3, List.pairwise_singleton _ _, fun a ha b hb => ?_⟩
    rw [List.mem_singleton] at hb
    subst hb
    rw [bef_iff]
    have := ((h4 a).1 ha).2
    omega
  · rw [List.mem_append, List.mem_singleton, h4]
    dsimp only
    constructor
    · rintro (⟨k1, k2⟩ | rfl)
      · exact ⟨k1, by omega⟩
      · exact ⟨hsub, .inr ⟨hk, by omega⟩⟩
    · rintro ⟨k1, k2 | ⟨k2, k3⟩⟩
      · exact .inl ⟨k1, .inl k2⟩
      · by_cases hz : z.toNat < y.2
        · exact .inl ⟨k1, .inr ⟨k2, hz⟩⟩
        · by_cases hz2 : y.2 < z.toNat
          · have := s3 z.toNat (subN.1 k1) hz2
            omega
          · exact .inr (BitVec.eq_of_toNat_eq (by omega))
theorem up_f {s : AS} {k : Nat} {y : List AS × Nat} (h : UpI s k y) (hy : y.2 ≤ s.toNat) (hk : bsz (BitVec.ofNat 32 y.2) ≠ k) : UpI s k (y.1, nxt y.2 s.toNat) := by
  have hn := up_nat h hy
  obtain ⟨s1, s2, s3⟩ := nxt_step s.isLt (up_in h hy)
  obtain ⟨h1, h2, h3, h4⟩ := h
  refine ⟨s2, by dsimp only; omega, h3, fun z => ?_⟩
  rw [h4]
  dsimp only
  constructor
  · rintro ⟨k1, k2⟩
    exact ⟨k1, by omega⟩
  · rintro ⟨k1, k2 | ⟨k2, k3⟩⟩
    · exact ⟨k1, .inl k2⟩
    · by_cases hz : z.toNat < y.2
      · exact ⟨k1, .inr ⟨k2, hz⟩⟩
      · by_cases hz2 : y.2 < z.toNat
        · have := s3 z.toNat (subN.1 k1) hz2
          omega
        · have e : z = BitVec.ofNat 32 y.2 := BitVec.eq_of_toNat_eq (by omega)
          exact absurd (e ▸ k2) hk
def UpK (s : AS) (k : Nat) (l : List AS) : Prop := l.length ≤ k * 4294967296 ∧ Ordd l ∧ ∀ z, z ∈ l ↔ sub z s ∧ bsz z < k
theorem upk_zero (s : AS) : UpK s 0 [] := by
  refine ⟨?_, List.Pairwise.nil, fun z => ?_⟩
  · show 0 ≤ _
    exact Nat.zero_le _
  · constructor
    · intro h; cases h
    · rintro ⟨_, h⟩; omega
theorem upk_in {s : AS} {k : Nat} {l : List AS} (h : UpK s k l) : UpI s k (l, 0) := by
  obtain ⟨h1, h2, h3⟩ := h
  unfold UpI
  dsimp only
  refine ⟨.inr (Nat.zero_and _), Nat.le_trans h1 (Nat.le_add_right _ _), h2, fun z => ?_⟩
  rw [h3]
  constructor
  · rintro ⟨a, b⟩
    exact ⟨a, .inl b⟩
  · rintro ⟨a, b | ⟨_, b⟩⟩
    · exact ⟨a, b⟩
    · exact absurd b (Nat.not_lt_zero _)
theorem upk_out {s : AS} {k : Nat} {y : List AS × Nat} (h : UpI s k y) (hy : ¬ y.2 ≤ s.toNat) : UpK s (k + 1) y.1 := by
  have h0 := up_lt h
  have := s.isLt
  obtain ⟨h1, h2, h3, h4⟩ := h
  refine ⟨by rw [Nat.add_mul]; omega, h3, fun z => ?_⟩
  rw [h4]
  constructor
  · rintro ⟨k1, k2⟩
    exact ⟨k1, by omega⟩
  · rintro ⟨k1, k2⟩
    have := subLe k1
    exact ⟨k1, by omega⟩
theorem upk_end {s : AS} {k : Nat} {l : List AS} (h : UpK s k l) (hk : bsz s < k) : l = subsL s := subsL_eq h.2.1 fun z => by
  rw [h.2.2]
  exact ⟨fun h => h.1, fun h => ⟨h, by have := sub_bsz h; omega⟩⟩
abbrev pU (n : Nat) : PC := .one (.raw (.int .u64 (n : Int)))
abbrev vU (n : Nat) : HR := oneP (.raw (.int .u64 (n : Int)))
theorem wrap_u64 (n : Int) : IntKind.wrap .u64 n = n % 18446744073709551616 := by
  simp [IntKind.wrap, IntKind.signed, IntKind.bits]
theorem nxt_ne {x s : Nat} (hs : s < 4294967296) (hx : x ≤ s) (h : ¬ (x : Int) = s) {a : Int} (ha : a = IntKind.wrap .u64 ((x : Int) - s) ∨ a = (x : Int) - s) : bitV .and .u64 a s = (nxt x s : Nat) := by
  unfold nxt
  rw [if_neg (by omega)]
  show IntKind.wrap .u64 ((BitVec.ofInt 64 a &&& BitVec.ofInt 64 s).toNat : Int) = _
  have e1 : (BitVec.ofInt 64 a).toNat = 2 ^ 64 + x - s := by
    rw [BitVec.toNat_ofInt]
    rcases ha with rfl | rfl
    · rw [wrap_u64]
      omega
    · omega
  have e2 : (BitVec.ofInt 64 (s : Int)).toNat = s := by
    rw [BitVec.toNat_ofInt]
    omega
  have h2 : ((2 ^ 64 + x - s) &&& s) ≤ s := Nat.and_le_right
  rw [BitVec.toNat_and, e1, e2, wrap_u64]
  omega
theorem nxt_eq {x s : Nat} (hs : s < 4294967296) (h : (x : Int) = s) : (s : Int) + 1 = (nxt x s : Nat) := by
  unfold nxt
  rw [if_pos (by omega)]
  omega
theorem pred_and {x s : AS} (h : x ≠ 0) : bitV .and .u32 (asI x - 1) (asI s) = asI ((x - 1) &&& s) := by rw [pred_v h, bAnd]
theorem arr_lit1 {α : Type} [Inhabited α] {wr wr' : Bool} {e : TypeId} {c : α → Nat → PV} {x : α} {f : Nat → Nat → PV} (h : CoP (f 0 0) (c x 0)) (hw : wr' = true → wr = true := by exact fun h => h) : CoO (.arr wr 1 e 1 f) (.arr wr' 1 e [x].length (lf c [x])) :=
  ⟨hw, rfl, rfl, rfl, fun i j hi hj => by
    have hi : i < 1 := hi
    have hj : j < 1 := hj
    obtain rfl : j = 0 := by omega
    obtain rfl : i = 0 := by omega
    exact h⟩
theorem set_u64 {n : Nat} (h : n < 4294967296) : (n : Int) = asI (BitVec.ofNat 32 n) := by
  unfold asI
  rw [BitVec.toNat_ofNat]
  omega
end Go.Hx
end
section
namespace Go.Hx
open Go.Proofs
set_option maxRecDepth 100000
theorem good66 : goodFn Tryz.prog 66 := ⟨Tryz.f66, Tryz.func66, by kernel_rfl, by kernel_rfl⟩
theorem cNext (x s : Nat) (hs : s < 4294967296) (hx : x ≤ s) : HPure Tryz.prog 66 [pU x, pU s] (prOf [pU (nxt x s)]) := by
  refine hpure_of (nt := 15) Tryzok Tryz.func66 rfl rfl (Nat.le_of_ble_eq_true rfl) ?_; refine hw_seq ?_; refine hw_region (E := TryzE) Tryzok ?_; refine rq rfl rfl rfl rfl rfl ?_; refine rg_nil ?_; show HW _ _ _ _ _
  (iterate 2 refine hw_seq ?_); refine hw_region (E := TryzE) Tryzok ?_; (iterate 3 refine rq rfl rfl rfl rfl rfl ?_); refine rg_nil ?_; show HW _ _ _ _ _; refine hw_cond _ rfl (fun r0 => ?_) (fun r0 => ?_)
  · skip
    have h0 := r0
    have h0 := of_decide_eq_true h0
    try simp only [Int.toNat_natCast] at h0
    refine hw_seq ?_; refine hw_region (E := TryzE) Tryzok ?_; (iterate 3 refine rq rfl rfl rfl rfl rfl ?_); refine rg_nil ?_; show HW _ _ _ _ _; refine hw_ret ?_; refine ⟨.inr rfl, ?_⟩
    exact ⟨_, _, _, _, rfl, (by (repeat' apply And.intro) <;> first | trivial | exact Nat.le_of_ble_eq_true rfl | rfl), rfl, (by (repeat' apply And.intro) <;> first | trivial | exact Nat.le_of_ble_eq_true rfl | rfl), ⟨cci (nxt_eq hs h0), trivial⟩⟩
  · skip
    have h0 := r0
    have h0 := of_decide_eq_false h0
    try simp only [Int.toNat_natCast] at h0
    refine hw_skip ?_; show HW _ _ _ _ _; refine hw_seq ?_; refine hw_region (E := TryzE) Tryzok ?_; (iterate 2 refine rq rfl rfl rfl rfl rfl ?_); refine rqw rfl rfl rfl rfl rfl ?_; (iterate 3 refine rq rfl rfl rfl rfl rfl ?_)
    refine rg_nil ?_; show HW _ _ _ _ _; refine hw_ret ?_; refine ⟨.inr rfl, ?_⟩
    exact ⟨_, _, _, _, rfl, (by (repeat' apply And.intro) <;> first | trivial | exact Nat.le_of_ble_eq_true rfl | rfl), rfl, (by (repeat' apply And.intro) <;> first | trivial | exact Nat.le_of_ble_eq_true rfl | rfl), ⟨cci (nxt_ne hs hx h0 (by first | exact .inl rfl | exact .inr rfl)), trivial⟩⟩
theorem good33 : goodFn Tryz.prog 33 := ⟨Tryz.f33, Tryz.func33, by kernel_rfl, by kernel_rfl⟩
theorem cSubs (s : AS) : HPure Tryz.prog 33 [pA s] (prOf [pP (asl (subsC s))]) := by
  refine hpure_of (nt := 23) Tryzok Tryz.func33 rfl rfl (Nat.le_of_ble_eq_true rfl) ?_; refine hw_seq ?_; refine hw_region (E := TryzE) Tryzok ?_; refine rq rfl rfl rfl rfl rfl ?_; refine rg_nil ?_; show HW _ _ _ _ _
  (iterate 2 refine hw_seq ?_); refine hw_region (E := TryzE) Tryzok ?_; refine rq rfl rfl rfl rfl rfl ?_; refine rc rfl rfl rfl rfl rfl rfl good45 (cSize s) (CoL.refl _) rfl rfl ?_; refine rq rfl rfl rfl rfl rfl ?_
  refine rg_nil ?_; show HW _ _ _ _ _; refine hw_cond _ rfl (fun r0 => ?_) (fun r0 => ?_)
  · skip
    have h0 := r0
    have h0 := of_decide_eq_true h0
    try simp only [Int.toNat_natCast] at h0
    refine hw_seq ?_; refine hw_region (E := TryzE) Tryzok ?_; refine rq rfl rfl rfl rfl rfl ?_; refine rg_nil ?_; show HW _ _ _ _ _; refine hw_ret ?_; refine ⟨.inr rfl, ?_⟩
    exact ⟨_, _, _, _, rfl, (by (repeat' apply And.intro) <;> first | trivial | exact Nat.le_of_ble_eq_true rfl | rfl), rfl, (by (repeat' apply And.intro) <;> first | trivial | exact Nat.le_of_ble_eq_true rfl | rfl), ⟨CoC.one (nilS (subsC_t h0)), trivial⟩⟩
  · skip
    have h0 := r0
    have h0 := of_decide_eq_false h0
    try simp only [Int.toNat_natCast] at h0
    refine hw_skip ?_; show HW _ _ _ _ _; refine hw_seq ?_; refine hw_region (E := TryzE) Tryzok ?_; refine rq rfl rfl rfl rfl rfl ?_; refine rm 0 rfl rfl rfl rfl rfl rfl ?_; refine rq rfl rfl rfl rfl rfl ?_; refine rg_nil ?_
    show HW _ _ _ _ _; (iterate 2 refine hw_seq ?_); refine hw_region (E := TryzE) Tryzok ?_; (iterate 2 refine rq rfl rfl rfl rfl rfl ?_); refine rg_nil ?_; show HW _ _ _ _ _; refine hw_block ?_
    refine hw_loopK (ι := List AS × AS) ⟨[(0, some _)], []⟩ ⟨⟨⟨_, rfl, CoR.refl _⟩, trivial⟩, trivial⟩ (fun y => ⟨[(3, some (.v (.one (.ref 0 y.1.length)))), (4, some (vA y.2))], [(0, some (.arr true 1 30 y.1.length (lf sC y.1)))]⟩) (fun y => DownI s y) (fun y => y.2.toNat) (([s], s)) (down_zero s) ⟨⟨⟨_, rfl, (by first | exact CoR.refl _ | exact coi (by omega) | exact cob (by simp_all))⟩, ⟨_, rfl, (by first | exact CoR.refl _ | exact coi (by omega) | exact cob (by simp_all))⟩, trivial⟩, ⟨⟨_, rfl, (arr_lit1 (CoP.refl _))⟩, trivial⟩⟩ ?_
    rintro y hy
    have hlen := hy.2.1
    have hsl := s.isLt
    (iterate 2 refine hw_seq ?_); refine hw_region (E := TryzE) Tryzok ?_; (iterate 2 refine rq rfl rfl rfl rfl rfl ?_); refine rg_nil ?_; show HW _ _ _ _ _; refine hw_cond _ rfl (fun r1 => ?_) (fun r1 => ?_)
    · skip
      have h1 := r1
      have h1 := of_decide_eq_false (not_t h1)
      try simp only [Int.toNat_natCast] at h1
      have hne : y.2 ≠ 0 := fun e => h1 (by rw [e]; rfl)
      refine hw_skip ?_; show HW _ _ _ _ _; refine hw_block ?_; refine hw_seq ?_; refine hw_region (E := TryzE) Tryzok ?_; refine rq rfl rfl rfl rfl rfl ?_; refine rq rfl rfl rfl rfl rfl ?_ (hp := (pred_pre hne))
      (iterate 3 refine rq rfl rfl rfl rfl rfl ?_); refine rg_nil ?_; show HW _ _ _ _ _; refine hw_region (E := TryzE) Tryzok ?_; (iterate 2 refine rq rfl rfl rfl rfl rfl ?_); refine rm 1 rfl rfl rfl rfl rfl rfl ?_
      refine ra 2 true rfl rfl rfl rfl rfl rfl ?_; refine rq rfl rfl rfl rfl rfl ?_; refine rg_nil ?_; refine ⟨(y.1 ++ [(y.2 - 1) &&& s], (y.2 - 1) &&& s), ?_, ?_, ?_⟩
      · exact down_next hy hne
      · exact pred_lt hne
      · exact ⟨⟨⟨_, rfl, (ref_app rfl)⟩, ⟨_, rfl, (cor_i (pred_and hne))⟩, ⟨_, rfl, CoR.refl _⟩, trivial⟩, ⟨⟨_, rfl, (arr_app1 rfl (CoP.of_eq (by rw [pred_and hne]; rfl)))⟩, trivial⟩⟩
    · skip
      have h1 := r1
      have h1 := of_decide_eq_true (not_f h1)
      try simp only [Int.toNat_natCast] at h1
      have hz : y.2 = 0 := asI_inj.1 h1
      refine hw_exit ?_; show HW _ _ _ _ _; refine hw_seq ?_; refine hw_freeze 3 rfl rfl rfl ?_; refine hw_region (E := TryzE) Tryzok ?_; refine rq rfl rfl rfl rfl rfl ?_
      refine rc rfl rfl rfl rfl rfl rfl good63 (cOrder y.1 (by omega)) (CoL.refl _) rfl rfl ?_; refine rq rfl rfl rfl rfl rfl ?_; refine rg_nil ?_; show HW _ _ _ _ _; refine hw_ret ?_; refine ⟨.inr rfl, ?_⟩
      exact ⟨_, _, _, _, rfl, (by (repeat' apply And.intro) <;> first | trivial | exact Nat.le_of_ble_eq_true rfl | rfl), rfl, (by (repeat' apply And.intro) <;> first | trivial | exact Nat.le_of_ble_eq_true rfl | rfl), ⟨CoC.one (CoP.of_eq (by rw [subsC_f h0, down_end hy hz])), trivial⟩⟩
theorem good38 : goodFn Tryz.prog 38 := ⟨Tryz.f38, Tryz.func38, by kernel_rfl, by kernel_rfl⟩
theorem cRSubs (s : AS) : HPure Tryz.prog 38 [pA s] (prOf [pP (asl (subsC s))]) := by
  refine hpure_of (nt := 34) Tryzok Tryz.func38 rfl rfl (Nat.le_of_ble_eq_true rfl) ?_; refine hw_seq ?_; refine hw_region (E := TryzE) Tryzok ?_; refine rq rfl rfl rfl rfl rfl ?_; refine rg_nil ?_; show HW _ _ _ _ _
  (iterate 2 refine hw_seq ?_); refine hw_region (E := TryzE) Tryzok ?_; refine rq rfl rfl rfl rfl rfl ?_; refine rc rfl rfl rfl rfl rfl rfl good65 (cRSize _) (⟨cci (by first | rfl | exact set_u64 (by omega)), trivial⟩) rfl rfl ?_
  refine rq rfl rfl rfl rfl rfl ?_; refine rg_nil ?_; show HW _ _ _ _ _; refine hw_cond _ rfl (fun r0 => ?_) (fun r0 => ?_)
  · skip
    have h0 := r0
    have h0 := of_decide_eq_true h0
    try simp only [Int.toNat_natCast] at h0
    refine hw_seq ?_; refine hw_region (E := TryzE) Tryzok ?_; refine rq rfl rfl rfl rfl rfl ?_; refine rg_nil ?_; show HW _ _ _ _ _; refine hw_ret ?_; refine ⟨.inr rfl, ?_⟩
    exact ⟨_, _, _, _, rfl, (by (repeat' apply And.intro) <;> first | trivial | exact Nat.le_of_ble_eq_true rfl | rfl), rfl, (by (repeat' apply And.intro) <;> first | trivial | exact Nat.le_of_ble_eq_true rfl | rfl), ⟨CoC.one (nilS (subsC_t h0)), trivial⟩⟩
  · skip
    have h0 := r0
    have h0 := of_decide_eq_false h0
    try simp only [Int.toNat_natCast] at h0
    refine hw_skip ?_; show HW _ _ _ _ _; refine hw_seq ?_; refine hw_region (E := TryzE) Tryzok ?_; refine rq rfl rfl rfl rfl rfl ?_; refine rg_nil ?_; show HW _ _ _ _ _; (iterate 2 refine hw_seq ?_)
    refine hw_region (E := TryzE) Tryzok ?_; refine rq rfl rfl rfl rfl rfl ?_; refine rg_nil ?_; show HW _ _ _ _ _; refine hw_block ?_
    refine hw_adopt 3 900 true 1 30 (lf sC []) (by decide) rfl (CoP.sl rfl (.inr rfl) (fun h => h) (fun i j hi _ => absurd hi (Nat.not_lt_zero i))) (.inr rfl) rfl ?_
    refine hw_loopK (ι := List AS × Nat) ⟨[(0, some _)], []⟩ ⟨⟨⟨_, rfl, CoR.refl _⟩, trivial⟩, trivial⟩ (fun x => ⟨[(3, some (.v (.one (.ref 900 x.1.length)))), (4, some (vI x.2))], [(900, some (.arr true 1 30 x.1.length (lf sC x.1)))]⟩) (fun x => UpK s x.2 x.1 ∧ x.2 ≤ bsz s + 1) (fun x => bsz s + 1 - x.2) (([], 0)) (⟨upk_zero s, Nat.zero_le _⟩) ⟨⟨⟨_, rfl, (by first | exact CoR.refl _ | exact coi (by omega) | exact cob (by simp_all))⟩, ⟨_, rfl, (by first | exact CoR.refl _ | exact coi (by omega) | exact cob (by simp_all))⟩, trivial⟩, ⟨⟨_, rfl, CoO.refl _⟩, trivial⟩⟩ ?_
    rintro x ⟨hx, hxb⟩
    have hlen := hx.1
    have hsl := s.isLt
    have hbz := bsz_le s
    (iterate 2 refine hw_seq ?_); refine hw_region (E := TryzE) Tryzok ?_; (iterate 2 refine rq rfl rfl rfl rfl rfl ?_)
    refine rc rfl rfl rfl rfl rfl rfl good65 (cRSize _) (⟨cci (by first | rfl | exact set_u64 (by omega)), trivial⟩) rfl rfl ?_; refine rq rfl rfl rfl rfl rfl ?_; refine rg_nil ?_; show HW _ _ _ _ _
    refine hw_cond _ rfl (fun r1 => ?_) (fun r1 => ?_)
    · skip
      have h1 := r1
      have h1 := of_decide_eq_true h1
      try simp only [Int.toNat_natCast] at h1
      refine hw_skip ?_; show HW _ _ _ _ _; refine hw_seq ?_; refine hw_block ?_; refine hw_seq ?_; refine hw_region (E := TryzE) Tryzok ?_; refine rq rfl rfl rfl rfl rfl ?_; refine rg_nil ?_; show HW _ _ _ _ _; refine hw_block ?_
      refine hw_loopK (ι := List AS × Nat) ⟨[(0, some _), (4, some _)], []⟩ ⟨⟨⟨_, rfl, CoR.refl _⟩, ⟨_, rfl, CoR.refl _⟩, trivial⟩, trivial⟩ (fun y => ⟨[(3, some (.v (.one (.ref 900 y.1.length)))), (5, some (vU y.2))], [(900, some (.arr true 1 30 y.1.length (lf sC y.1)))]⟩) (fun y => UpI s x.2 y) (fun y => s.toNat + 1 - y.2) ((x.1, 0)) (upk_in hx) ⟨⟨⟨_, rfl, (by first | exact CoR.refl _ | exact coi (by omega) | exact cob (by simp_all))⟩, ⟨_, rfl, (by first | exact CoR.refl _ | exact coi (by omega) | exact cob (by simp_all))⟩, trivial⟩, ⟨⟨_, rfl, CoO.refl _⟩, trivial⟩⟩ ?_
      rintro y hy
      have hlen2 := hy.2.1
      have hyl := up_lt hy
      have hsa : asI s = (s.toNat : Int) := rfl
      (iterate 2 refine hw_seq ?_); refine hw_region (E := TryzE) Tryzok ?_; (iterate 2 refine rq rfl rfl rfl rfl rfl ?_); refine rq rfl rfl rfl rfl rfl ?_ (hp := (by simp only [arith, inR, loOf, hiOf]; omega))
      refine rq rfl rfl rfl rfl rfl ?_; refine rg_nil ?_; show HW _ _ _ _ _; refine hw_cond _ rfl (fun r2 => ?_) (fun r2 => ?_)
      · skip
        have h2 := r2
        have h2 := of_decide_eq_true h2
        try simp only [Int.toNat_natCast] at h2
        refine hw_skip ?_; show HW _ _ _ _ _; refine hw_seq ?_; refine hw_block ?_; refine hw_seq ?_; refine hw_region (E := TryzE) Tryzok ?_; refine rq rfl rfl rfl rfl rfl ?_
        refine rq rfl rfl rfl rfl rfl ?_ (hp := (by simp only [arith, inR, loOf, hiOf]; omega)); refine rc rfl rfl rfl rfl rfl rfl good65 (cRSize _) (⟨cci (by first | rfl | exact set_u64 (by omega)), trivial⟩) rfl rfl ?_
        (iterate 2 refine rq rfl rfl rfl rfl rfl ?_); refine rg_nil ?_; show HW _ _ _ _ _; refine hw_cond _ rfl (fun r3 => ?_) (fun r3 => ?_)
        · skip
          have h3 := r3
          have h3 := of_decide_eq_true h3
          try simp only [Int.toNat_natCast] at h3
          refine hw_region (E := TryzE) Tryzok ?_; (iterate 2 refine rq rfl rfl rfl rfl rfl ?_); refine rq rfl rfl rfl rfl rfl ?_ (hp := (by simp only [arith, inR, loOf, hiOf]; omega)); refine rm 0 rfl rfl rfl rfl rfl rfl ?_
          refine ra 1 true rfl rfl rfl rfl rfl rfl ?_; refine rq rfl rfl rfl rfl rfl ?_; refine rg_nil ?_; show HW _ _ _ _ _; refine hw_region (E := TryzE) Tryzok ?_; (iterate 2 refine rq rfl rfl rfl rfl rfl ?_)
          refine rq rfl rfl rfl rfl rfl ?_ (hp := (by simp only [arith, inR, loOf, hiOf]; omega)); refine rc rfl rfl rfl rfl rfl rfl good66 (cNext y.2 s.toNat s.isLt (by omega)) (⟨CoC.refl _, cci rfl, trivial⟩) rfl rfl ?_
          refine rq rfl rfl rfl rfl rfl ?_; refine rg_nil ?_
          first | (refine ⟨(y.1 ++ [BitVec.ofNat 32 y.2], nxt y.2 s.toNat), ?_, ?_, ?_⟩
                   · exact up_t hy (by omega) (by omega)
                   · have := (nxt_step s.isLt (up_in hy (by omega))).1
                     dsimp only
                     omega
                   · exact ⟨⟨⟨_, rfl, (ref_app rfl)⟩, ⟨_, rfl, (by first | exact CoR.refl _ | exact coi (by omega) | exact cob (by simp_all))⟩, ⟨_, rfl, CoR.refl _⟩, ⟨_, rfl, CoR.refl _⟩, trivial⟩, ⟨⟨_, rfl, (arr_app1 rfl (CoP.of_eq (congrArg (fun z => PV.raw (.int .u32 z)) (set_u64 (by omega)))))⟩, trivial⟩⟩)
                | (refine ⟨(y.1, nxt y.2 s.toNat), ?_, ?_, ?_⟩
                   · exact up_f hy (by omega) (by omega)
                   · have := (nxt_step s.isLt (up_in hy (by omega))).1
                     dsimp only
                     omega
                   · exact ⟨⟨⟨_, rfl, (by first | exact CoR.refl _ | exact coi (by omega) | exact cob (by simp_all))⟩, ⟨_, rfl, (by first | exact CoR.refl _ | exact coi (by omega) | exact cob (by simp_all))⟩, ⟨_, rfl, CoR.refl _⟩, ⟨_, rfl, CoR.refl _⟩, trivial⟩, ⟨⟨_, rfl, CoO.refl _⟩, trivial⟩⟩)
        · skip
          have h3 := r3
          have h3 := of_decide_eq_false h3
          try simp only [Int.toNat_natCast] at h3
          refine hw_skip ?_; show HW _ _ _ _ _; refine hw_region (E := TryzE) Tryzok ?_; (iterate 2 refine rq rfl rfl rfl rfl rfl ?_); refine rq rfl rfl rfl rfl rfl ?_ (hp := (by simp only [arith, inR, loOf, hiOf]; omega))
          refine rc rfl rfl rfl rfl rfl rfl good66 (cNext y.2 s.toNat s.isLt (by omega)) (⟨CoC.refl _, cci rfl, trivial⟩) rfl rfl ?_; refine rq rfl rfl rfl rfl rfl ?_; refine rg_nil ?_
          first | (refine ⟨(y.1 ++ [BitVec.ofNat 32 y.2], nxt y.2 s.toNat), ?_, ?_, ?_⟩
                   · exact up_t hy (by omega) (by omega)
                   · have := (nxt_step s.isLt (up_in hy (by omega))).1
                     dsimp only
                     omega
                   · exact ⟨⟨⟨_, rfl, (ref_app rfl)⟩, ⟨_, rfl, (by first | exact CoR.refl _ | exact coi (by omega) | exact cob (by simp_all))⟩, ⟨_, rfl, CoR.refl _⟩, ⟨_, rfl, CoR.refl _⟩, trivial⟩, ⟨⟨_, rfl, (arr_app1 rfl (CoP.of_eq (congrArg (fun z => PV.raw (.int .u32 z)) (set_u64 (by omega)))))⟩, trivial⟩⟩)
                | (refine ⟨(y.1, nxt y.2 s.toNat), ?_, ?_, ?_⟩
                   · exact up_f hy (by omega) (by omega)
                   · have := (nxt_step s.isLt (up_in hy (by omega))).1
                     dsimp only
                     omega
                   · exact ⟨⟨⟨_, rfl, (by first | exact CoR.refl _ | exact coi (by omega) | exact cob (by simp_all))⟩, ⟨_, rfl, (by first | exact CoR.refl _ | exact coi (by omega) | exact cob (by simp_all))⟩, ⟨_, rfl, CoR.refl _⟩, ⟨_, rfl, CoR.refl _⟩, trivial⟩, ⟨⟨_, rfl, CoO.refl _⟩, trivial⟩⟩)
      · skip
        have h2 := r2
        have h2 := of_decide_eq_false h2
        try simp only [Int.toNat_natCast] at h2
        refine hw_exit ?_; show HW _ _ _ _ _; refine hw_region (E := TryzE) Tryzok ?_; (iterate 3 refine rq rfl rfl rfl rfl rfl ?_); refine rg_nil ?_; refine ⟨(y.1, x.2 + 1), ?_, ?_, ?_⟩
        · show UpK s (x.2 + 1) y.1 ∧ x.2 + 1 ≤ _
          exact ⟨upk_out (y := y) hy (by omega), by omega⟩
        · dsimp only
          omega
        · exact ⟨⟨⟨_, rfl, (by first | exact CoR.refl _ | exact coi (by omega) | exact cob (by simp_all))⟩, ⟨_, rfl, (by first | exact CoR.refl _ | exact coi (by omega) | exact cob (by simp_all))⟩, ⟨_, rfl, CoR.refl _⟩, trivial⟩, ⟨⟨_, rfl, CoO.refl _⟩, trivial⟩⟩
    · skip
      have h1 := r1
      have h1 := of_decide_eq_false h1
      try simp only [Int.toNat_natCast] at h1
      refine hw_exit ?_; show HW _ _ _ _ _; refine hw_seq ?_; refine hw_region (E := TryzE) Tryzok ?_; (iterate 2 refine rq rfl rfl rfl rfl rfl ?_); refine rg_nil ?_; refine hw_freeze 2 rfl rfl rfl ?_; show HW _ _ _ _ _
      refine hw_ret ?_; refine ⟨.inr rfl, ?_⟩
      exact ⟨_, _, _, _, rfl, (by (repeat' apply And.intro) <;> first | trivial | exact Nat.le_of_ble_eq_true rfl | rfl), rfl, (by (repeat' apply And.intro) <;> first | trivial | exact Nat.le_of_ble_eq_true rfl | rfl), ⟨CoC.one (CoP.of_eq (by rw [subsC_f h0, upk_end hx (by omega)]; rfl)), trivial⟩⟩
end Go.Hx
end
section
namespace Go.Hx
def vioP (l : List Fd) (p x : AS) : Bool := decide (clo l x &&& p ≠ x) && decide (clo l x &&& p ≠ p)
def violX (l : List Fd) (p : AS) : Option AS := (subsC p).find? (vioP l p)
def vioF (l : List Fd) (p x : AS) : Fd := ⟨x, (clo l x &&& p) &&& ~~~x⟩
def violF (l : List Fd) (p : AS) : Fd := match violX l p with
  | some x => vioF l p x
  | none => ⟨0, 0⟩
def violB (l : List Fd) (p : AS) : Bool := (violX l p).isSome
theorem find_t {α : Type} [Inhabited α] {q : α → Bool} {l : List α} {i : Nat} (hi : i < l.length) (hI : ∀ j, j < i → q (l.getD j default) = false) (h : q (l.getD i default) = true) : l.find? q = some (l.getD i default) := by
  rw [List.find?_eq_some_iff_getElem]
  refine ⟨h, i, hi, by simp [List.getD, hi], fun j hj => ?_⟩
  have := hI j hj
  rw [List.getD_eq_getElem?_getD, List.getElem?_eq_getElem (by omega), Option.getD_some] at this
  simp [this]
theorem find_f {α : Type} [Inhabited α] {q : α → Bool} {l : List α} (hI : ∀ j, j < l.length → q (l.getD j default) = false) : l.find? q = none := by
  rw [List.find?_eq_none]
  intro x hx
  obtain ⟨j, hj, rfl⟩ := List.getElem_of_mem hx
  have := hI j hj
  rw [List.getD_eq_getElem?_getD, List.getElem?_eq_getElem hj, Option.getD_some] at this
  simp [this]
theorem viol_t {l : List Fd} {p : AS} {i : Nat} (hi : i < (subsC p).length) (hI : ∀ j, j < i → vioP l p ((subsC p).getD j default) = false) (h : vioP l p ((subsC p).getD i default) = true) : violF l p = vioF l p ((subsC p).getD i default) ∧ violB l p = true := by
  have e : violX l p = some ((subsC p).getD i default) := find_t hi hI h
  unfold violF violB
  rw [e]
  exact ⟨rfl, rfl⟩
theorem viol_f {l : List Fd} {p : AS} (hI : ∀ j, j < (subsC p).length → vioP l p ((subsC p).getD j default) = false) : violF l p = ⟨0, 0⟩ ∧ violB l p = false := by
  have e : violX l p = none := find_f hI
  unfold violF violB
  rw [e]
  exact ⟨rfl, rfl⟩
theorem vioP_x {l : List Fd} {p x : AS} (h : bitV .and .u32 (asI (clo l x)) (asI p) = asI x) : vioP l p x = false := by
  rw [bAnd, asI_inj] at h
  unfold vioP
  simp [h]
theorem vioP_p {l : List Fd} {p x : AS} (h : bitV .and .u32 (asI (clo l x)) (asI p) = asI p) : vioP l p x = false := by
  rw [bAnd, asI_inj] at h
  unfold vioP
  simp [h]
theorem vioP_t {l : List Fd} {p x : AS} (h : ¬ bitV .and .u32 (asI (clo l x)) (asI p) = asI x) (k : ¬ bitV .and .u32 (asI (clo l x)) (asI p) = asI p) : vioP l p x = true := by
  rw [bAnd, asI_inj] at h k
  unfold vioP
  simp [h, k]
theorem viol_co {l : List Fd} {p : AS} {i : Nat} {a b : PV} (hi : i < (subsC p).length) (hI : ∀ j, j < i → vioP l p ((subsC p).getD j default) = false) (h : vioP l p ((subsC p).getD i default) = true) (ha : a = asC ((subsC p).getD i default)) (hb : b = .raw (.int .u32 (bitV .andNot .u32 (bitV .and .u32 (asI (clo l ((subsC p).getD i default))) (asI p)) (asI ((subsC p).getD i default))))) : CoC (.agg [a, b]) (violF l p).pc :=
  CoC.of_eq (by rw [(viol_t hi hI h).1, ha, hb, bAnd, bNot]; rfl)
theorem viol_co0 {l : List Fd} {p : AS} (hI : ∀ j, j < (subsC p).length → vioP l p ((subsC p).getD j default) = false) : CoC (.agg [rawP (.int .u32 0), rawP (.int .u32 0)]) (violF l p).pc := CoC.of_eq (by rw [(viol_f hI).1]; rfl)
theorem downS_len {s : AS} : ∀ (n : Nat) (x : AS), (downS s n x).length ≤ x.toNat + 1
  | 0, x => Nat.zero_le _
  | n + 1, x => by
    unfold downS
    by_cases h0 : x = 0
    · rw [if_pos h0]; simp
    · rw [if_neg h0, List.length_cons]
      have h1 := downS_len (s := s) n ((x - 1) &&& s)
      have h2 := pred_lt (s := s) h0
      omega
theorem subsC_len (s : AS) : (subsC s).length ≤ 4294967296 := by
  unfold subsC subsL
  have h1 := downS_len (s := s) (s.toNat + 1) s
  have h2 := ord_len (downS s (s.toNat + 1) s)
  have h3 := s.isLt
  split
  · simp
  · omega
end Go.Hx
end
section
namespace Go.Hx
open Go.Proofs
set_option maxRecDepth 100000
theorem good36 : goodFn Tryz.prog 36 := ⟨Tryz.f36, Tryz.func36, by kernel_rfl, by kernel_rfl⟩
theorem cViol (l : List Fd) (p : AS) : HPure Tryz.prog 36 [pP (fdl l), pA p] (prOf [(violF l p).pc, pB (violB l p)]) := by
  refine hpure_of (nt := 36) Tryzok Tryz.func36 rfl rfl (Nat.le_of_ble_eq_true rfl) ?_; refine hw_seq ?_; refine hw_region (E := TryzE) Tryzok ?_; refine rm 0 rfl rfl rfl rfl rfl rfl ?_; refine rq rfl rfl rfl rfl rfl ?_
  refine rg_nil ?_; show HW _ _ _ _ _; (iterate 2 refine hw_seq ?_); refine hw_region (E := TryzE) Tryzok ?_; refine rq rfl rfl rfl rfl rfl ?_; refine rc rfl rfl rfl rfl rfl rfl good33 (cSubs p) (CoL.refl _) rfl rfl ?_
  (iterate 2 refine rq rfl rfl rfl rfl rfl ?_); refine rg_nil ?_; show HW _ _ _ _ _; refine hw_block ?_
  refine hw_loopK (ι := Nat) ⟨[(0, some _), (1, some _), (4, some _), (10, some _), (11, some _)], [(0, some _)]⟩ ⟨⟨⟨_, rfl, CoR.refl _⟩, ⟨_, rfl, CoR.refl _⟩, ⟨_, rfl, CoR.refl _⟩, ⟨_, rfl, CoR.refl _⟩, ⟨_, rfl, CoR.refl _⟩, trivial⟩, ⟨⟨_, rfl, CoO.refl _⟩, trivial⟩⟩ (fun i => ⟨[(12, some (vI i))], []⟩) (fun i => i ≤ (subsC p).length ∧ (∀ j, j < i → vioP l p ((subsC p).getD j default) = false)) (fun i => (subsC p).length - i) (0) (⟨Nat.zero_le _, all_zero⟩) ⟨⟨⟨_, rfl, (by first | exact CoR.refl _ | exact coi (by omega) | exact cob (by simp_all))⟩, trivial⟩, trivial⟩ ?_
  rintro i ⟨hi, hI⟩
  have hlen := subsC_len p
  refine hw_seq ?_; refine hw_region (E := TryzE) Tryzok ?_; refine rq rfl rfl rfl rfl rfl ?_; refine rg_nil ?_; show HW _ _ _ _ _; refine hw_seq ?_; refine hw_cond _ rfl (fun r0 => ?_) (fun r0 => ?_)
  · skip
    have h0 := r0
    have h0 := of_decide_eq_true h0
    try simp only [Int.toNat_natCast] at h0
    refine hw_skip ?_; show HW _ _ _ _ _; refine hw_seq ?_; refine hw_block ?_; refine hw_seq ?_; refine hw_region (E := TryzE) Tryzok ?_; (iterate 3 refine rq rfl rfl rfl rfl rfl ?_); refine rg_nil ?_; show HW _ _ _ _ _
    refine hw_seq ?_; refine hw_region (E := TryzE) Tryzok ?_; (iterate 2 refine rq rfl rfl rfl rfl rfl ?_); refine rc rfl rfl rfl rfl rfl rfl good64 (cClose l ((subsC p).getD i default)) (CoL.refl _) rfl rfl ?_
    (iterate 3 refine rq rfl rfl rfl rfl rfl ?_); refine rg_nil ?_; show HW _ _ _ _ _; refine hw_seq ?_; refine hw_region (E := TryzE) Tryzok ?_; (iterate 4 refine rq rfl rfl rfl rfl rfl ?_)
    refine rsplit rfl rfl (fun r1 => ?_) (fun r1 => ?_)
    · skip
      have h1 := r1
      have h1 := of_decide_eq_false (not_t h1)
      try simp only [Int.toNat_natCast] at h1
      (iterate 3 refine rq rfl rfl rfl rfl (gtt r1) ?_); refine rq rfl rfl rfl rfl rfl ?_; refine rg_nil ?_; show HW _ _ _ _ _; refine hw_cond _ rfl (fun r2 => ?_) (fun r2 => ?_)
      · skip
        have h2 := r2
        have h2 := bif_t r1 h2
        have h2 := of_decide_eq_false (not_t h2)
        try simp only [Int.toNat_natCast] at h2
        refine hw_seq ?_; refine hw_region (E := TryzE) Tryzok ?_; (iterate 5 refine rq rfl rfl rfl rfl rfl ?_); refine rs rfl rfl rfl rfl rfl ?_; refine rq rfl rfl rfl rfl rfl ?_; refine rg_nil ?_; show HW _ _ _ _ _
        refine hw_ret ?_; refine ⟨.inr rfl, ?_⟩
        exact ⟨_, _, _, _, rfl, (by (repeat' apply And.intro) <;> first | trivial | exact Nat.le_of_ble_eq_true rfl | rfl), rfl, (by (repeat' apply And.intro) <;> first | trivial | exact Nat.le_of_ble_eq_true rfl | rfl), ⟨viol_co (i := i) (by omega) hI (vioP_t h1 h2) rfl rfl, ccb (viol_t (i := i) (by omega) hI (vioP_t h1 h2)).2.symm, trivial⟩⟩
      · skip
        have h2 := r2
        have h2 := bif_t r1 h2
        have h2 := of_decide_eq_true (not_f h2)
        try simp only [Int.toNat_natCast] at h2
        refine hw_skip ?_; show HW _ _ _ _ _; refine hw_region (E := TryzE) Tryzok ?_; (iterate 2 refine rq rfl rfl rfl rfl rfl ?_); refine rg_nil ?_; refine ⟨i + 1, ?_, ?_, ?_⟩
        · exact ⟨by show i + 1 ≤ _; omega, all_succ hI (by first | exact vioP_x h1 | exact vioP_p h2)⟩
        · first | omega | (dsimp only; omega)
        · exact ⟨⟨⟨_, rfl, (by first | exact CoR.refl _ | exact coi (by omega) | exact cob (by simp_all))⟩, ⟨_, rfl, CoR.refl _⟩, ⟨_, rfl, CoR.refl _⟩, ⟨_, rfl, CoR.refl _⟩, ⟨_, rfl, CoR.refl _⟩, ⟨_, rfl, CoR.refl _⟩, trivial⟩, ⟨⟨_, rfl, CoO.refl _⟩, trivial⟩⟩
    · skip
      have h1 := r1
      have h1 := of_decide_eq_true (not_f h1)
      try simp only [Int.toNat_natCast] at h1
      (iterate 3 refine rk rfl rfl rfl (gft r1) ?_); refine rq rfl rfl rfl rfl rfl ?_ (hp := r1); refine rg_nil ?_; show HW _ _ _ _ _; refine hw_cond _ rfl (fun e => by cases e) (fun _ => ?_); refine hw_skip ?_; show HW _ _ _ _ _
      refine hw_region (E := TryzE) Tryzok ?_; (iterate 2 refine rq rfl rfl rfl rfl rfl ?_); refine rg_nil ?_; refine ⟨i + 1, ?_, ?_, ?_⟩
      · exact ⟨by show i + 1 ≤ _; omega, all_succ hI (by first | exact vioP_x h1 | exact vioP_p h2)⟩
      · first | omega | (dsimp only; omega)
      · exact ⟨⟨⟨_, rfl, (by first | exact CoR.refl _ | exact coi (by omega) | exact cob (by simp_all))⟩, ⟨_, rfl, CoR.refl _⟩, ⟨_, rfl, CoR.refl _⟩, ⟨_, rfl, CoR.refl _⟩, ⟨_, rfl, CoR.refl _⟩, ⟨_, rfl, CoR.refl _⟩, trivial⟩, ⟨⟨_, rfl, CoO.refl _⟩, trivial⟩⟩
  · skip
    have h0 := r0
    have h0 := of_decide_eq_false h0
    try simp only [Int.toNat_natCast] at h0
    refine hw_exit ?_; show HW _ _ _ _ _; refine hw_seq ?_; refine hw_region (E := TryzE) Tryzok ?_; refine rq rfl rfl rfl rfl rfl ?_; refine rs rfl rfl rfl rfl rfl ?_; refine rq rfl rfl rfl rfl rfl ?_; refine rg_nil ?_
    show HW _ _ _ _ _; refine hw_ret ?_; refine ⟨.inr rfl, ?_⟩
    exact ⟨_, _, _, _, rfl, (by (repeat' apply And.intro) <;> first | trivial | exact Nat.le_of_ble_eq_true rfl | rfl), rfl, (by (repeat' apply And.intro) <;> first | trivial | exact Nat.le_of_ble_eq_true rfl | rfl), ⟨viol_co0 (fun j hj => hI j (by omega)), ccb (viol_f (fun j hj => hI j (by omega))).2.symm, trivial⟩⟩
theorem good67 : goodFn Tryz.prog 67 := ⟨Tryz.f67, Tryz.func67, by kernel_rfl, by kernel_rfl⟩
theorem cRViol (l : List Fd) (p : AS) : HPure Tryz.prog 67 [pP (fdl l), pA p] (prOf [(violF l p).pc, pB (violB l p)]) := by
  refine hpure_of (nt := 48) Tryzok Tryz.func67 rfl rfl (Nat.le_of_ble_eq_true rfl) ?_; refine hw_seq ?_; refine hw_region (E := TryzE) Tryzok ?_; refine rm 0 rfl rfl rfl rfl rfl rfl ?_; refine rq rfl rfl rfl rfl rfl ?_
  refine rg_nil ?_; show HW _ _ _ _ _; refine hw_seq ?_; refine hw_region (E := TryzE) Tryzok ?_; refine rq rfl rfl rfl rfl rfl ?_; refine rc rfl rfl rfl rfl rfl rfl good38 (cRSubs p) (CoL.refl _) rfl rfl ?_
  refine rq rfl rfl rfl rfl rfl ?_; refine rg_nil ?_; show HW _ _ _ _ _; (iterate 2 refine hw_seq ?_); refine hw_region (E := TryzE) Tryzok ?_; refine rq rfl rfl rfl rfl rfl ?_; refine rg_nil ?_; show HW _ _ _ _ _
  refine hw_block ?_
  refine hw_loopK (ι := Nat) ⟨[(0, some _), (1, some _), (4, some _), (6, some _)], [(0, some _)]⟩ ⟨⟨⟨_, rfl, CoR.refl _⟩, ⟨_, rfl, CoR.refl _⟩, ⟨_, rfl, CoR.refl _⟩, ⟨_, rfl, CoR.refl _⟩, trivial⟩, ⟨⟨_, rfl, CoO.refl _⟩, trivial⟩⟩ (fun i => ⟨[(7, some (vI i))], []⟩) (fun i => i ≤ (subsC p).length ∧ (∀ j, j < i → vioP l p ((subsC p).getD j default) = false)) (fun i => (subsC p).length - i) (0) (⟨Nat.zero_le _, all_zero⟩) ⟨⟨⟨_, rfl, (by first | exact CoR.refl _ | exact coi (by omega) | exact cob (by simp_all))⟩, trivial⟩, trivial⟩ ?_
  rintro i ⟨hi, hI⟩
  have hlen := subsC_len p
  (iterate 2 refine hw_seq ?_); refine hw_region (E := TryzE) Tryzok ?_; (iterate 4 refine rq rfl rfl rfl rfl rfl ?_); refine rg_nil ?_; show HW _ _ _ _ _; refine hw_cond _ rfl (fun r0 => ?_) (fun r0 => ?_)
  · skip
    have h0 := r0
    have h0 := of_decide_eq_true h0
    try simp only [Int.toNat_natCast] at h0
    refine hw_skip ?_; show HW _ _ _ _ _; refine hw_seq ?_; refine hw_block ?_; refine hw_seq ?_; refine hw_region (E := TryzE) Tryzok ?_; (iterate 5 refine rq rfl rfl rfl rfl rfl ?_)
    refine rc rfl rfl rfl rfl rfl rfl good53 (cRClose l ((subsC p).getD i default)) (CoL.refl _) rfl rfl ?_; (iterate 3 refine rq rfl rfl rfl rfl rfl ?_); refine rg_nil ?_; show HW _ _ _ _ _; refine hw_seq ?_
    refine hw_region (E := TryzE) Tryzok ?_; (iterate 7 refine rq rfl rfl rfl rfl rfl ?_); refine rsplit rfl rfl (fun r1 => ?_) (fun r1 => ?_)
    · skip
      have h1 := r1
      have h1 := of_decide_eq_false (not_t h1)
      try simp only [Int.toNat_natCast] at h1
      (iterate 3 refine rq rfl rfl rfl rfl (gtt r1) ?_); refine rq rfl rfl rfl rfl rfl ?_; refine rg_nil ?_; show HW _ _ _ _ _; refine hw_cond _ rfl (fun r2 => ?_) (fun r2 => ?_)
      · skip
        have h2 := r2
        have h2 := bif_t r1 h2
        have h2 := of_decide_eq_false (not_t h2)
        try simp only [Int.toNat_natCast] at h2
        refine hw_seq ?_; refine hw_draw (E := TryzE) Tryzok Tryzmixed [0, 1, 2, 3, 4, 5, 6, 7, 8, 9, 10, 11, 12] ?_; (iterate 11 refine rq rfl rfl rfl rfl rfl ?_); refine rs rfl rfl rfl rfl rfl ?_; refine rq rfl rfl rfl rfl rfl ?_
        refine rg_nil ?_; refine ⟨by kernel_rfl, ?_⟩; show HW _ _ _ _ _; refine hw_ret ?_; refine ⟨.inr rfl, ?_⟩
        exact ⟨_, _, _, _, rfl, (by (repeat' apply And.intro) <;> first | trivial | exact Nat.le_of_ble_eq_true rfl | rfl), rfl, (by (repeat' apply And.intro) <;> first | trivial | exact Nat.le_of_ble_eq_true rfl | rfl), ⟨viol_co (i := i) (by omega) hI (vioP_t h1 h2) rfl rfl, ccb (viol_t (i := i) (by omega) hI (vioP_t h1 h2)).2.symm, trivial⟩⟩
      · skip
        have h2 := r2
        have h2 := bif_t r1 h2
        have h2 := of_decide_eq_true (not_f h2)
        try simp only [Int.toNat_natCast] at h2
        refine hw_skip ?_; show HW _ _ _ _ _; refine hw_region (E := TryzE) Tryzok ?_; (iterate 3 refine rq rfl rfl rfl rfl rfl ?_); refine rg_nil ?_; refine ⟨i + 1, ?_, ?_, ?_⟩
        · exact ⟨by show i + 1 ≤ _; omega, all_succ hI (by first | exact vioP_x h1 | exact vioP_p h2)⟩
        · first | omega | (dsimp only; omega)
        · exact ⟨⟨⟨_, rfl, (by first | exact CoR.refl _ | exact coi (by omega) | exact cob (by simp_all))⟩, ⟨_, rfl, CoR.refl _⟩, ⟨_, rfl, CoR.refl _⟩, ⟨_, rfl, CoR.refl _⟩, ⟨_, rfl, CoR.refl _⟩, trivial⟩, ⟨⟨_, rfl, CoO.refl _⟩, trivial⟩⟩
    · skip
      have h1 := r1
      have h1 := of_decide_eq_true (not_f h1)
      try simp only [Int.toNat_natCast] at h1
      (iterate 3 refine rk rfl rfl rfl (gft r1) ?_); refine rq rfl rfl rfl rfl rfl ?_ (hp := r1); refine rg_nil ?_; show HW _ _ _ _ _; refine hw_cond _ rfl (fun e => by cases e) (fun _ => ?_); refine hw_skip ?_; show HW _ _ _ _ _
      refine hw_region (E := TryzE) Tryzok ?_; (iterate 3 refine rq rfl rfl rfl rfl rfl ?_); refine rg_nil ?_; refine ⟨i + 1, ?_, ?_, ?_⟩
      · exact ⟨by show i + 1 ≤ _; omega, all_succ hI (by first | exact vioP_x h1 | exact vioP_p h2)⟩
      · first | omega | (dsimp only; omega)
      · exact ⟨⟨⟨_, rfl, (by first | exact CoR.refl _ | exact coi (by omega) | exact cob (by simp_all))⟩, ⟨_, rfl, CoR.refl _⟩, ⟨_, rfl, CoR.refl _⟩, ⟨_, rfl, CoR.refl _⟩, ⟨_, rfl, CoR.refl _⟩, trivial⟩, ⟨⟨_, rfl, CoO.refl _⟩, trivial⟩⟩
  · skip
    have h0 := r0
    have h0 := of_decide_eq_false h0
    try simp only [Int.toNat_natCast] at h0
    refine hw_exit ?_; show HW _ _ _ _ _; refine hw_seq ?_; refine hw_region (E := TryzE) Tryzok ?_; refine rq rfl rfl rfl rfl rfl ?_; refine rs rfl rfl rfl rfl rfl ?_; refine rq rfl rfl rfl rfl rfl ?_; refine rg_nil ?_
    show HW _ _ _ _ _; refine hw_ret ?_; refine ⟨.inr rfl, ?_⟩
    exact ⟨_, _, _, _, rfl, (by (repeat' apply And.intro) <;> first | trivial | exact Nat.le_of_ble_eq_true rfl | rfl), rfl, (by (repeat' apply And.intro) <;> first | trivial | exact Nat.le_of_ble_eq_true rfl | rfl), ⟨viol_co0 (fun j hj => hI j (by omega)), ccb (viol_f (fun j hj => hI j (by omega))).2.symm, trivial⟩⟩
theorem good40 : goodFn Tryz.prog 40 := ⟨Tryz.f40, Tryz.func40, by kernel_rfl, by kernel_rfl⟩
theorem cRForm (l : List Fd) (p : AS) : HPure Tryz.prog 40 [pP (fdl l), pA p] (prOf [pB (!violB l p)]) := by
  refine hpure_of (nt := 15) Tryzok Tryz.func40 rfl rfl (Nat.le_of_ble_eq_true rfl) ?_; refine hw_seq ?_; refine hw_region (E := TryzE) Tryzok ?_; refine rq rfl rfl rfl rfl rfl ?_; refine rg_nil ?_; show HW _ _ _ _ _
  refine hw_seq ?_; refine hw_region (E := TryzE) Tryzok ?_; (iterate 2 refine rq rfl rfl rfl rfl rfl ?_); refine rc rfl rfl rfl rfl rfl rfl good67 (cRViol l p) (CoL.refl _) rfl rfl ?_; (iterate 3 refine rq rfl rfl rfl rfl rfl ?_)
  refine rm 0 rfl rfl rfl rfl rfl rfl ?_; refine rs rfl rfl rfl rfl rfl ?_; refine rq rfl rfl rfl rfl rfl ?_; refine rg_nil ?_; show HW _ _ _ _ _; refine hw_seq ?_; refine hw_region (E := TryzE) Tryzok ?_
  (iterate 3 refine rq rfl rfl rfl rfl rfl ?_); refine rg_nil ?_; show HW _ _ _ _ _; refine hw_ret ?_; refine ⟨.inr rfl, ?_⟩
  exact ⟨_, _, _, _, rfl, (by (repeat' apply And.intro) <;> first | trivial | exact Nat.le_of_ble_eq_true rfl | rfl), rfl, (by (repeat' apply And.intro) <;> first | trivial | exact Nat.le_of_ble_eq_true rfl | rfl), CoL.refl _⟩
end Go.Hx
end
