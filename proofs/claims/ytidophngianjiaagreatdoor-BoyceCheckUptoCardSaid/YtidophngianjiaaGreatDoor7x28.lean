/- A part of the proof: Ch2 X1 X2 Ch3 X3. -/
import Derived.Test.YtidophngianjiaaGreatDoor7x17
import Derived.Test.YtidophngianjiaaGreatDoor7x19
import Derived.Test.YtidophngianjiaaGreatDoor7x27
set_option linter.all false
section
namespace Go.Hx
abbrev pZ (r : Rw) : PC := .one (zl r)
abbrev pR (l : List Rw) : PC := .one (rl l)
abbrev pT (n : Int) (l : List Rw) : PC := .agg [.raw (.int .i64 n), rl l]
theorem a9n : ∀ {a b : Rw} {i : Nat}, i < a.length → i < b.length → (∀ j, j < i → a.getD j default = b.getD j default) → ¬ a.getD i default = b.getD i default → ltZ a b = decide (a.getD i default < b.getD i default)
 | [], _, _, h, _, _, _ => by simp at h
 | _ :: _, [], _, _, h, _, _ => by simp at h
 | x :: a, y :: b, 0, _, _, _, hn => by
  have : ¬ x = y := hn
  unfold ltZ
  rw [if_neg this]
  rfl
 | x :: a, y :: b, i + 1, ha, hb, h, hn => by
  have e : x = y := h 0 (by omega)
  unfold ltZ
  rw [if_pos e]
  exact a9n (by simpa using ha) (by simpa using hb) (fun j hj => h (j + 1) (by omega)) hn
theorem a0a : ∀ {a b : Rw}, (∀ j, j < a.length → j < b.length → a.getD j default = b.getD j default) → ltZ a b = decide (a.length < b.length)
 | [], [], _ => rfl
 | [], _ :: _, _ => by simp [ltZ]
 | _ :: _, [], _ => by simp [ltZ]
 | x :: a, y :: b, h => by
  have e : x = y := h 0 (by simp) (by simp)
  unfold ltZ
  rw [if_pos e, a0a fun j h1 h2 => h (j + 1) (by simpa using h1) (by simpa using h2)]
  simp
def lb (a b : Rw) : Int := if a = b then 0 else if ltZ a b = true then -1 else 1
theorem au6 {a b : Rw} {i : Nat} (ha : i < a.length) (hb : i < b.length) (h : ∀ j, j < i → a.getD j default = b.getD j default) (hn : ¬ gq (a.getD i default) (b.getD i default) = 0) : gq (a.getD i default) (b.getD i default) = lb a b := by
 have hne : ¬ a.getD i default = b.getD i default := fun e => hn (by unfold gq; rw [if_neg (by omega), if_neg (by omega)])
 unfold gq lb
 rw [if_neg (fun e : a = b => hne (by rw [e])), a9n ha hb h hne]
 simp only [decide_eq_true_eq]
 split
 · rfl
 · rw [if_pos (by omega)]
theorem axp {a b : Int} (h : gq a b = 0) : a = b := by
 unfold gq at h
 split at h
 · omega
 · split at h <;> omega
theorem at7 {a b : Rw} {i : Nat} (ha : i < a.length) (hb : ¬ i < b.length) (h : ∀ j, j < i → a.getD j default = b.getD j default) : (1 : Int) = lb a b := by
 unfold lb
 rw [if_neg (fun e : a = b => by subst e; omega), a0a fun j h1 h2 => h j (by omega), if_neg (by simp only [decide_eq_true_eq]; omega)]
theorem asy {a b : Rw} (hl : a.length < b.length) (h : ∀ j, j < a.length → a.getD j default = b.getD j default) : (-1 : Int) = lb a b := by
 unfold lb
 rw [if_neg (fun e : a = b => by subst e; omega), a0a fun j h1 h2 => h j h1, if_pos (by simp only [decide_eq_true_eq]; omega)]
theorem aud {a b : Rw} (hl : a.length ≤ b.length) (hl2 : ¬ a.length < b.length) (h : ∀ j, j < a.length → a.getD j default = b.getD j default) : (0 : Int) = lb a b := by
 unfold lb
 rw [if_pos (jq (by omega) h)]
theorem ar1 {a b : Rw} (h : a.length = b.length) (hI : ∀ j, j < a.length → decide (a.getD j default = b.getD j default) = true) : a = b := jq h fun j hj => of_decide_eq_true (hI j hj)
theorem awn {a b : Nat} (h : ∀ j, j < a → j < b) : a ≤ b := Nat.le_of_not_lt fun e => Nat.lt_irrefl _ (h b e)
def gz (a b : Rw) (s : AS) : Bool := decide (∀ i : Nat, i < a.length → (d2 s (i : Int) = true → a.getD i default = b.getD i default))
theorem ak1 {a b : Rw} {s : AS} {i : Nat} (hi : i < a.length) (h : d2 s (i : Int) = true) (hn : ¬ a.getD i default = b.getD i default) : gz a b s = false := decide_eq_false fun e => hn (e i hi h)
theorem ub {a b : Rw} {s : AS} (h : ∀ i : Nat, i < a.length → (d2 s (i : Int) = true → a.getD i default = b.getD i default)) : gz a b s = true := decide_eq_true h
theorem n8 {s : AS} {i : Nat} (h : i < 32) : d9 .and .u32 ((asI s).fdiv (2 ^ (min i 32))) 1 = 1 ↔ d2 s (i : Int) = true := by
 rw [← a7i (s := s) (i := (i : Int)) (by omega) (by omega), decide_eq_true_iff]
 rfl
def jw (n : Int) (l : List Rw) (i : Nat) : Bool := decide (((l.getD i default).length : Int) = n) && !(l.getD i default).any (fun x => decide (x < 0)) && (decide (i = 0) || ltZ (l.getD (i - 1) default) (l.getD i default))
def tok (n : Int) (l : List Rw) : Bool := decide (0 ≤ n ∧ n ≤ 16 ∧ l.length ≤ 256) && decide (∀ i, i < l.length → jw n l i = true)
theorem afd {n : Int} {l : List Rw} (h0 : 0 ≤ n) (h1 : n ≤ 16) (h2 : l.length ≤ 256) (h : ∀ i, i < l.length → jw n l i = true) : tok n l = true := by
 unfold tok
 rw [decide_eq_true (show 0 ≤ n ∧ n ≤ 16 ∧ l.length ≤ 256 from ⟨h0, h1, h2⟩), decide_eq_true h]
 rfl
theorem vc {n : Int} {l : List Rw} (h : ¬ (0 ≤ n ∧ n ≤ 16 ∧ l.length ≤ 256)) : tok n l = false := by
 unfold tok
 rw [decide_eq_false h]
 rfl
theorem vt {n : Int} {l : List Rw} {i : Nat} (hi : i < l.length) (h : jw n l i = false) : tok n l = false := by
 unfold tok
 rw [decide_eq_false (fun e : ∀ i, i < l.length → jw n l i = true => by rw [e i hi] at h; cases h), Bool.and_false]
def d5 (a b : Rw) (s : AS) : Rw := (List.range b.length).map fun (i : Nat) => if d2 s (i : Int) = true then a.getD i default else b.getD i default
end Go.Hx
end
section
namespace Go.Hx
open Go.Proofs
set_option maxRecDepth 100000
set_option maxHeartbeats 1000000
theorem asj : goodFn Tryz.prog 245 := ⟨Tryz.f245, Tryz.func245, by kernel_rfl, by kernel_rfl⟩
theorem b1x (l : List Int) (g k : Nat) (caps : Nat → PV) (V : Int → Bool) (hg : goodFn Tryz.prog g) (hV : ∀ x, aj Tryz.prog g (pI x :: fz caps k 0) (aq [pB (V x)])) : aj Tryz.prog 245 [pP (zl l), pP (.fn g k caps)] (aq [pI (idx V l)]) := by
 refine ag (nt := 19) af Tryz.func245 rfl rfl l9 ?_; refine a7 ?_
 refine ce 0 rfl fun hn => ?_
 refine gy ?_; refine qy ?_; refine a6 ?_; refine df (ι := Unit) ⟨[], []⟩ ⟨trivial, trivial⟩ (fun _i => ⟨[], []⟩) (fun _i => idx V l = -1) ?_ ?_
 ·
  refine sx7 ?_; (iterate 3 refine qy ?_); refine a6 ?_; refine ae ?_
  refine ak (ι := Nat) ⟨[(0, some _), (1, some _), (7, some _)], []⟩ ⟨⟨c9, c9, c9, trivial⟩, trivial⟩ (fun i => ⟨[(8, some (vI i))], []⟩) (fun i => i ≤ l.length ∧ (∀ j, j < i → V (l.getD j default) = false)) (fun i => l.length - i) (0) (⟨Nat.zero_le _, bt⟩) ⟨⟨zy, trivial⟩, trivial⟩ ?_
  rintro i ⟨hi, hI⟩
  refine sx7 ?_; refine qy ?_; refine a6 ?_; refine a7 ?_; refine a8 _ rfl (fun r0 => ?_) (fun r0 => ?_)
  ·
   have h0 := of_decide_eq_true r0
   try simp only [ty] at h0
   refine aa ?_; refine a7 ?_; refine ae ?_; refine sx7 ?_; (iterate 2 refine qy ?_); refine a6 ?_; refine sx7 ?_; (iterate 5 refine qy ?_)
   refine rc rfl rfl rfl rfl rfl rfl hg (hV (l.getD i default)) (CoL.refl _) rfl rfl ?_; refine a6 ?_; refine a8 _ rfl (fun r1 => ?_) (fun r1 => ?_)
   ·
    have h1 := r1
    refine sx7 ?_; (iterate 2 refine qy ?_); refine a6 ?_
    exact hx8 rfl rfl rfl (⟨cci (t7 (i := i) (by omega) hI h1).symm, trivial⟩)
   ·
    have h1 := r1
    refine aa ?_; refine gy ?_; (iterate 2 refine qy ?_); refine a6 ?_; refine ⟨i + 1, ?_, ?_, ?_⟩
    · exact ⟨by show i + 1 ≤ _; omega, be hI (h1)⟩
    · first | omega | (dsimp only; omega)
    · exact ⟨⟨zy, c9, c9, c9, trivial⟩, trivial⟩
  ·
   have h0 := of_decide_eq_false r0
   try simp only [ty] at h0
   refine am ?_; refine ⟨(), ?_, ?_⟩
   · exact sy fun j hj => hI j (by omega)
   · exact ⟨trivial, trivial⟩
 · rintro _ hj
   refine sx7 ?_; refine qy ?_; refine a6 ?_
   exact hx8 rfl rfl rfl (⟨cci hj.symm, trivial⟩)
theorem avh : goodFn Tryz.prog 184 := ⟨Tryz.f184, Tryz.func184, by kernel_rfl, by kernel_rfl⟩
theorem b1c (l : List Rw) (g k : Nat) (caps : Nat → PV) (V : Rw → Bool) (hg : goodFn Tryz.prog g) (hV : ∀ x, aj Tryz.prog g (pZ x :: fz caps k 0) (aq [pB (V x)])) : aj Tryz.prog 184 [pP (rl l), pP (.fn g k caps)] (aq [pI (idx V l)]) := by
 refine ag (nt := 19) af Tryz.func184 rfl rfl l9 ?_; refine a7 ?_
 refine ce 0 rfl fun hn => ?_
 refine gy ?_; refine qy ?_; refine a6 ?_; refine df (ι := Unit) ⟨[], []⟩ ⟨trivial, trivial⟩ (fun _i => ⟨[], []⟩) (fun _i => idx V l = -1) ?_ ?_
 ·
  refine sx7 ?_; (iterate 3 refine qy ?_); refine a6 ?_; refine ae ?_
  refine ak (ι := Nat) ⟨[(0, some _), (1, some _), (7, some _)], []⟩ ⟨⟨c9, c9, c9, trivial⟩, trivial⟩ (fun i => ⟨[(8, some (vI i))], []⟩) (fun i => i ≤ l.length ∧ (∀ j, j < i → V (l.getD j default) = false)) (fun i => l.length - i) (0) (⟨Nat.zero_le _, bt⟩) ⟨⟨zy, trivial⟩, trivial⟩ ?_
  rintro i ⟨hi, hI⟩
  refine sx7 ?_; refine qy ?_; refine a6 ?_; refine a7 ?_; refine a8 _ rfl (fun r0 => ?_) (fun r0 => ?_)
  ·
   have h0 := of_decide_eq_true r0
   try simp only [ty] at h0
   refine aa ?_; refine a7 ?_; refine ae ?_; refine sx7 ?_; (iterate 2 refine qy ?_); refine a6 ?_; refine sx7 ?_; (iterate 5 refine qy ?_)
   refine rc rfl rfl rfl rfl rfl rfl hg (hV (l.getD i default)) (CoL.refl _) rfl rfl ?_; refine a6 ?_; refine a8 _ rfl (fun r1 => ?_) (fun r1 => ?_)
   ·
    have h1 := r1
    refine sx7 ?_; (iterate 2 refine qy ?_); refine a6 ?_
    exact hx8 rfl rfl rfl (⟨cci (t7 (i := i) (by omega) hI h1).symm, trivial⟩)
   ·
    have h1 := r1
    refine aa ?_; refine gy ?_; (iterate 2 refine qy ?_); refine a6 ?_; refine ⟨i + 1, ?_, ?_, ?_⟩
    · exact ⟨by show i + 1 ≤ _; omega, be hI (h1)⟩
    · first | omega | (dsimp only; omega)
    · exact ⟨⟨zy, c9, c9, c9, trivial⟩, trivial⟩
  ·
   have h0 := of_decide_eq_false r0
   try simp only [ty] at h0
   refine am ?_; refine ⟨(), ?_, ?_⟩
   · exact sy fun j hj => hI j (by omega)
   · exact ⟨trivial, trivial⟩
 · rintro _ hj
   refine sx7 ?_; refine qy ?_; refine a6 ?_
   exact hx8 rfl rfl rfl (⟨cci hj.symm, trivial⟩)
theorem avi : goodFn Tryz.prog 232 := ⟨Tryz.f232, Tryz.func232, by kernel_rfl, by kernel_rfl⟩
theorem b1u (l : List Int) (g k : Nat) (caps : Nat → PV) (V : Int → Bool) (hg : goodFn Tryz.prog g) (hV : ∀ x, aj Tryz.prog g (pI x :: fz caps k 0) (aq [pB (V x)])) : aj Tryz.prog 232 [pP (zl l), pP (.fn g k caps)] (aq [pB (l.any V)]) := by
 refine ag (nt := 9) af Tryz.func232 rfl rfl l9 ?_; refine sx7 ?_; refine qy ?_; refine a6 ?_; refine sx7 ?_; (iterate 2 refine qy ?_)
 refine rc rfl rfl rfl rfl rfl rfl asj (b1x l g k caps V hg hV) (CoL.refl _) rfl rfl ?_; (iterate 2 refine qy ?_); refine a6 ?_
 exact hx8 rfl rfl rfl (⟨ccb ya, trivial⟩)
theorem ave : goodFn Tryz.prog 150 := ⟨Tryz.f150, Tryz.func150, by kernel_rfl, by kernel_rfl⟩
theorem b1z (l : List Rw) (g k : Nat) (caps : Nat → PV) (V : Rw → Bool) (hg : goodFn Tryz.prog g) (hV : ∀ x, aj Tryz.prog g (pZ x :: fz caps k 0) (aq [pB (V x)])) : aj Tryz.prog 150 [pP (rl l), pP (.fn g k caps)] (aq [pB (l.any V)]) := by
 refine ag (nt := 9) af Tryz.func150 rfl rfl l9 ?_; refine sx7 ?_; refine qy ?_; refine a6 ?_; refine sx7 ?_; (iterate 2 refine qy ?_)
 refine rc rfl rfl rfl rfl rfl rfl avh (b1c l g k caps V hg hV) (CoL.refl _) rfl rfl ?_; (iterate 2 refine qy ?_); refine a6 ?_
 exact hx8 rfl rfl rfl (⟨ccb ya, trivial⟩)
theorem a57 : goodFn Tryz.prog 152 := ⟨Tryz.f152, Tryz.func152, by kernel_rfl, by kernel_rfl⟩
theorem amw (a b : Rw) : aj Tryz.prog 152 [pZ a, pZ b] (aq [pB (decide (a = b))]) := by
 refine ag (nt := 26) af Tryz.func152 rfl rfl l9 ?_; refine a7 ?_
 refine ce 0 rfl fun hn0 => ?_
 refine ce 1 rfl fun hn1 => ?_
 refine gy ?_; refine qy ?_; refine a6 ?_; refine a7 ?_; refine sx7 ?_; (iterate 5 refine qy ?_); refine a6 ?_; refine a8 _ rfl (fun r0 => ?_) (fun r0 => ?_)
 ·
  have h0 := r0
  have h0 := of_decide_eq_false (az h0)
  try simp only [ty] at h0
  refine sx7 ?_; refine qy ?_; refine a6 ?_
  exact hx8 rfl rfl rfl (⟨ccb (decide_eq_false fun e => by subst e; omega).symm, trivial⟩)
 ·
  have h0 := r0
  have h0 := of_decide_eq_true (b4 h0)
  try simp only [ty] at h0
  refine aa ?_; refine df (ι := Unit) ⟨[], []⟩ ⟨trivial, trivial⟩ (fun _i => ⟨[], []⟩) (fun _i => a = b) ?_ ?_
  ·
   refine sx7 ?_; (iterate 3 refine qy ?_); refine a6 ?_; refine ae ?_
   refine ak (ι := Nat) ⟨[(0, some _), (1, some _), (12, some _)], []⟩ ⟨⟨c9, c9, c9, trivial⟩, trivial⟩ (fun i => ⟨[(13, some (vI i))], []⟩) (fun i => i ≤ a.length ∧ (∀ j, j < i → decide (a.getD j default = b.getD j default) = true)) (fun i => a.length - i) (0) (⟨Nat.zero_le _, bt⟩) ⟨⟨zy, trivial⟩, trivial⟩ ?_
   rintro i ⟨hi, hI⟩
   refine sx7 ?_; refine qy ?_; refine a6 ?_; refine a7 ?_; refine a8 _ rfl (fun r1 => ?_) (fun r1 => ?_)
   ·
    have h1 := of_decide_eq_true r1
    try simp only [ty] at h1
    refine aa ?_; refine a7 ?_; refine ae ?_; refine sx7 ?_; (iterate 2 refine qy ?_); refine a6 ?_; refine a7 ?_; refine ay (E := b6) af au [0, 1, 2, 3, 4, 5, 6, 7, 8] ?_
    (iterate 9 refine qy ?_); refine a6 ?_; refine ⟨by kernel_rfl, ?_⟩; refine a8 _ rfl (fun r2 => ?_) (fun r2 => ?_)
    ·
     have h2 := r2
     have h2 := of_decide_eq_false (az h2)
     try simp only [ty] at h2
     refine sx7 ?_; refine qy ?_; refine a6 ?_
     exact hx8 rfl rfl rfl (⟨ccb (decide_eq_false fun e => by subst e; simp_all).symm, trivial⟩)
    ·
     have h2 := r2
     have h2 := of_decide_eq_true (b4 h2)
     try simp only [ty] at h2
     refine aa ?_; refine gy ?_; (iterate 2 refine qy ?_); refine a6 ?_; refine ⟨i + 1, ?_, ?_, ?_⟩
     · exact ⟨by show i + 1 ≤ _; omega, be hI (decide_eq_true (by simp_all))⟩
     · first | omega | (dsimp only; omega)
     · exact ⟨⟨zy, c9, c9, c9, trivial⟩, trivial⟩
   ·
    have h1 := of_decide_eq_false r1
    try simp only [ty] at h1
    refine am ?_; refine ⟨(), ?_, ?_⟩
    · exact ar1 (by omega) fun j hj => hI j (by omega)
    · exact ⟨trivial, trivial⟩
  · rintro _ hj
    refine sx7 ?_; refine qy ?_; refine a6 ?_
    exact hx8 rfl rfl rfl (⟨ccb (decide_eq_true hj).symm, trivial⟩)
theorem at2 : goodFn Tryz.prog 147 := ⟨Tryz.f147, Tryz.func147, by kernel_rfl, by kernel_rfl⟩
theorem b07 (a b : Rw) : aj Tryz.prog 147 [pZ a, pZ b] (aq [pB (decide (a = b))]) := by
 refine ag (nt := 26) af Tryz.func147 rfl rfl l9 ?_; refine a7 ?_
 refine ce 0 rfl fun hn0 => ?_
 refine ce 1 rfl fun hn1 => ?_
 refine gy ?_; refine qy ?_; refine a6 ?_; refine a7 ?_; refine sx7 ?_; (iterate 5 refine qy ?_); refine a6 ?_; refine a8 _ rfl (fun r0 => ?_) (fun r0 => ?_)
 ·
  have h0 := r0
  have h0 := of_decide_eq_false (az h0)
  try simp only [ty] at h0
  refine sx7 ?_; refine qy ?_; refine a6 ?_
  exact hx8 rfl rfl rfl (⟨ccb (decide_eq_false fun e => by subst e; omega).symm, trivial⟩)
 ·
  have h0 := r0
  have h0 := of_decide_eq_true (b4 h0)
  try simp only [ty] at h0
  refine aa ?_; refine df (ι := Unit) ⟨[], []⟩ ⟨trivial, trivial⟩ (fun _i => ⟨[], []⟩) (fun _i => a = b) ?_ ?_
  ·
   refine sx7 ?_; refine qy ?_; refine a6 ?_; refine ae ?_
   refine ak (ι := Nat) ⟨[(0, some _), (1, some _)], []⟩ ⟨⟨c9, c9, trivial⟩, trivial⟩ (fun i => ⟨[(5, some (vI i))], []⟩) (fun i => i ≤ a.length ∧ (∀ j, j < i → decide (a.getD j default = b.getD j default) = true)) (fun i => a.length - i) (0) (⟨Nat.zero_le _, bt⟩) ⟨⟨zy, trivial⟩, trivial⟩ ?_
   rintro i ⟨hi, hI⟩
   refine a7 ?_; refine sx7 ?_; (iterate 4 refine qy ?_); refine a6 ?_; refine a8 _ rfl (fun r1 => ?_) (fun r1 => ?_)
   ·
    have h1 := of_decide_eq_true r1
    try simp only [ty] at h1
    refine aa ?_; refine a7 ?_; refine ae ?_; refine a7 ?_; refine ay (E := b6) af au [0, 1, 2, 3, 4, 5, 6, 7, 8] ?_; (iterate 9 refine qy ?_); refine a6 ?_; refine ⟨by kernel_rfl, ?_⟩
    refine a8 _ rfl (fun r2 => ?_) (fun r2 => ?_)
    ·
     have h2 := r2
     have h2 := of_decide_eq_false (az h2)
     try simp only [ty] at h2
     refine sx7 ?_; refine qy ?_; refine a6 ?_
     exact hx8 rfl rfl rfl (⟨ccb (decide_eq_false fun e => by subst e; simp_all).symm, trivial⟩)
    ·
     have h2 := r2
     have h2 := of_decide_eq_true (b4 h2)
     try simp only [ty] at h2
     refine aa ?_; refine gy ?_; (iterate 3 refine qy ?_); refine a6 ?_; refine ⟨i + 1, ?_, ?_, ?_⟩
     · exact ⟨by show i + 1 ≤ _; omega, be hI (decide_eq_true (by simp_all))⟩
     · first | omega | (dsimp only; omega)
     · exact ⟨⟨zy, c9, c9, trivial⟩, trivial⟩
   ·
    have h1 := of_decide_eq_false r1
    try simp only [ty] at h1
    refine am ?_; refine ⟨(), ?_, ?_⟩
    · exact ar1 (by omega) fun j hj => hI j (by omega)
    · exact ⟨trivial, trivial⟩
  · rintro _ hj
    refine sx7 ?_; refine qy ?_; refine a6 ?_
    exact hx8 rfl rfl rfl (⟨ccb (decide_eq_true hj).symm, trivial⟩)
theorem atk : goodFn Tryz.prog 212 := ⟨Tryz.f212, Tryz.func212, by kernel_rfl, by kernel_rfl⟩
theorem ar3 (a b : Rw) : aj Tryz.prog 212 [pZ a, pZ b] (aq [pI (lb a b)]) := by
 refine ag (nt := 36) af Tryz.func212 rfl rfl l9 ?_; refine a7 ?_
 refine ce 0 rfl fun hn0 => ?_
 refine ce 1 rfl fun hn1 => ?_
 refine gy ?_; refine qy ?_; refine a6 ?_
 refine df (ι := Unit) ⟨[(0, some _), (1, some _)], []⟩ ⟨⟨c9, c9, trivial⟩, trivial⟩ (fun _i => ⟨[], []⟩) (fun _i => ∀ j, j < a.length → j < b.length ∧ a.getD j default = b.getD j default) ?_ ?_
 ·
  refine sx7 ?_; (iterate 3 refine qy ?_); refine a6 ?_; refine ae ?_
  refine ak (ι := Nat) ⟨[(0, some _), (1, some _), (9, some _), (10, some _)], []⟩ ⟨⟨c9, c9, c9, c9, trivial⟩, trivial⟩ (fun i => ⟨[(11, some (vI i))], []⟩) (fun i => i ≤ a.length ∧ (∀ j, j < i → j < b.length ∧ a.getD j default = b.getD j default)) (fun i => a.length - i) (0) (⟨Nat.zero_le _, bt⟩) ⟨⟨zy, trivial⟩, trivial⟩ ?_
  rintro i ⟨hi, hI⟩
  refine sx7 ?_; refine qy ?_; refine a6 ?_; refine a7 ?_; refine a8 _ rfl (fun r0 => ?_) (fun r0 => ?_)
  ·
   have h0 := of_decide_eq_true r0
   try simp only [ty] at h0
   refine aa ?_; refine a7 ?_; refine ae ?_; refine sx7 ?_; (iterate 5 refine qy ?_); refine a6 ?_; refine a7 ?_; refine sx7 ?_; (iterate 4 refine qy ?_); refine a6 ?_
   refine a8 _ rfl (fun r1 => ?_) (fun r1 => ?_)
   ·
    have h1 := of_decide_eq_true r1
    try simp only [ty] at h1
    refine sx7 ?_; refine qy ?_; refine a6 ?_
    exact hx8 rfl rfl rfl (⟨cci (at7 (i := i) (by omega) (by omega) fun j hj => (hI j hj).2), trivial⟩)
   ·
    have h1 := of_decide_eq_false r1
    try simp only [ty] at h1
    refine aa ?_; refine sx7 ?_; (iterate 5 refine qy ?_); refine a6 ?_; refine sx7 ?_; (iterate 2 refine qy ?_)
    refine rc rfl rfl rfl rfl rfl rfl ad0 (ar7 (a.getD i default) (b.getD i default)) (CoL.refl _) rfl rfl ?_; refine qy ?_; refine a6 ?_; refine sx7 ?_; (iterate 2 refine qy ?_); refine a6 ?_
    refine a8 _ rfl (fun r2 => ?_) (fun r2 => ?_)
    ·
     have h2 := r2
     have h2 := of_decide_eq_false (az h2)
     try simp only [ty] at h2
     refine sx7 ?_; (iterate 2 refine qy ?_); refine a6 ?_
     exact hx8 rfl rfl rfl (⟨cci (au6 (i := i) (by omega) (by omega) (fun j hj => (hI j hj).2) (by assumption)), trivial⟩)
    ·
     have h2 := r2
     have h2 := of_decide_eq_true (b4 h2)
     try simp only [ty] at h2
     refine aa ?_; refine gy ?_; (iterate 2 refine qy ?_); refine a6 ?_; refine ⟨i + 1, ?_, ?_, ?_⟩
     · exact ⟨by show i + 1 ≤ _; omega, be hI (⟨by omega, axp (by assumption)⟩)⟩
     · first | omega | (dsimp only; omega)
     · exact ⟨⟨zy, c9, c9, c9, c9, trivial⟩, trivial⟩
  ·
   have h0 := of_decide_eq_false r0
   try simp only [ty] at h0
   refine am ?_; refine ⟨(), ?_, ?_⟩
   · exact fun j hj => hI j (by omega)
   · exact ⟨⟨c9, c9, trivial⟩, trivial⟩
 · rintro _ hj
   refine a7 ?_; refine sx7 ?_; (iterate 5 refine qy ?_); refine a6 ?_; refine a8 _ rfl (fun r3 => ?_) (fun r3 => ?_)
   ·
    have h3 := of_decide_eq_true r3
    try simp only [ty] at h3
    refine sx7 ?_; refine qy ?_; refine a6 ?_
    exact hx8 rfl rfl rfl (⟨cci (asy (by omega) fun j h => (hj j h).2), trivial⟩)
   ·
    have h3 := of_decide_eq_false r3
    try simp only [ty] at h3
    refine aa ?_; refine sx7 ?_; refine qy ?_; refine a6 ?_
    exact hx8 rfl rfl rfl (⟨cci (aud (awn fun j h => (hj j h).1) (by omega) fun j h => (hj j h).2), trivial⟩)
theorem ac6 : goodFn Tryz.prog 209 := ⟨Tryz.f209, Tryz.func209, by kernel_rfl, by kernel_rfl⟩
theorem ar5 (a b : Rw) : aj Tryz.prog 209 [pZ a, pZ b] (aq [pB (ltZ a b)]) := by
 refine ag (nt := 41) af Tryz.func209 rfl rfl l9 ?_; refine a7 ?_
 refine ce 0 rfl fun hn0 => ?_
 refine ce 1 rfl fun hn1 => ?_
 refine gy ?_; refine qy ?_; refine a6 ?_
 refine df (ι := Unit) ⟨[(0, some _), (1, some _)], []⟩ ⟨⟨c9, c9, trivial⟩, trivial⟩ (fun _i => ⟨[], []⟩) (fun _i => ∀ j, j < a.length → j < b.length → a.getD j default = b.getD j default) ?_ ?_
 ·
  refine sx7 ?_; refine qy ?_; refine a6 ?_; refine ae ?_
  refine ak (ι := Nat) ⟨[(0, some _), (1, some _)], []⟩ ⟨⟨c9, c9, trivial⟩, trivial⟩ (fun i => ⟨[(5, some (vI i))], []⟩) (fun i => i ≤ a.length ∧ (∀ j, j < i → j < b.length ∧ a.getD j default = b.getD j default)) (fun i => a.length - i) (0) (⟨Nat.zero_le _, bt⟩) ⟨⟨zy, trivial⟩, trivial⟩ ?_
  rintro i ⟨hi, hI⟩
  refine a7 ?_; refine sx7 ?_; (iterate 5 refine qy ?_); refine bh rfl rfl (fun r0 => ?_) (fun r0 => ?_)
  ·
   have h0 := of_decide_eq_true r0
   try simp only [ty] at h0
   (iterate 4 refine qy ?_ (hg := (gtt r0))); refine qy ?_; refine a6 ?_; refine a8 _ rfl (fun r1 => ?_) (fun r1 => ?_)
   ·
    have h1 := r1
    have h1 := dw r0 h1
    have h1 := of_decide_eq_true h1
    try simp only [ty] at h1
    refine aa ?_; refine a7 ?_; refine ae ?_; refine a7 ?_; refine ay (E := b6) af au [0, 1, 2, 3, 4, 5, 6, 7, 8] ?_; (iterate 9 refine qy ?_); refine a6 ?_; refine ⟨by kernel_rfl, ?_⟩
    refine a8 _ rfl (fun r2 => ?_) (fun r2 => ?_)
    ·
     have h2 := r2
     have h2 := of_decide_eq_false (az h2)
     try simp only [ty] at h2
     refine a7 ?_; refine ay (E := b6) af au [0, 1, 2, 3, 4, 5, 6, 7, 8, 9] ?_; (iterate 10 refine qy ?_); refine a6 ?_; refine ⟨by kernel_rfl, ?_⟩
     exact hx8 rfl rfl rfl (⟨ccb (a9n (i := i) (by omega) (by omega) (fun j h => (hI j h).2) (by assumption)).symm, trivial⟩)
    ·
     have h2 := r2
     have h2 := of_decide_eq_true (b4 h2)
     try simp only [ty] at h2
     refine aa ?_; refine gy ?_; (iterate 3 refine qy ?_); refine a6 ?_; refine ⟨i + 1, ?_, ?_, ?_⟩
     · exact ⟨by show i + 1 ≤ _; omega, be hI (⟨by omega, by assumption⟩)⟩
     · first | omega | (dsimp only; omega)
     · exact ⟨⟨zy, c9, c9, trivial⟩, trivial⟩
   ·
    have h1 := r1
    have h1 := dw r0 h1
    have h1 := of_decide_eq_false h1
    try simp only [ty] at h1
    refine am ?_; refine ⟨(), ?_, ?_⟩
    · exact fun j h1 h2 => (hI j (by omega)).2
    · exact ⟨⟨c9, c9, trivial⟩, trivial⟩
  ·
   have h0 := of_decide_eq_false r0
   try simp only [ty] at h0
   (iterate 4 refine k9 (gft r0) ?_); refine rq rfl rfl rfl rfl rfl ?_ (hp := r0); refine a6 ?_; refine a8 _ rfl (fun e => by cases e) (fun _ => ?_); refine am ?_; refine ⟨(), ?_, ?_⟩
   · exact fun j h1 h2 => (hI j (by omega)).2
   · exact ⟨⟨c9, c9, trivial⟩, trivial⟩
 · rintro _ hj
   refine sx7 ?_; (iterate 6 refine qy ?_); refine a6 ?_
   exact hx8 rfl rfl rfl (⟨ccb (by rw [a0a hj, decide_eq_decide]; omega), trivial⟩)
end Go.Hx
end
section
namespace Go.Hx
open Go.Proofs
set_option maxRecDepth 100000
abbrev bxZ (a : PV) : PV := .vp 1 fun j => [a].getD j .any
theorem av6 : goodFn Tryz.prog 151 := ⟨Tryz.f151, Tryz.func151, by kernel_rfl, by kernel_rfl⟩
theorem aym (r row : Rw) : aj Tryz.prog 151 [pZ r, pP (bxZ (zl row))] (aq [pB (decide (r = row))]) := by
 refine ag (nt := 7) af Tryz.func151 rfl rfl l9 ?_; refine sx7 ?_; refine qy ?_; refine a6 ?_; refine sx7 ?_; (iterate 2 refine qy ?_); refine rc rfl rfl rfl rfl rfl rfl a57 (amw _ _) (CoL.refl _) rfl rfl ?_
 refine qy ?_; refine a6 ?_
 exact hx8 rfl rfl rfl (CoL.refl _)
theorem afz : goodFn Tryz.prog 99 := ⟨Tryz.f99, Tryz.func99, by kernel_rfl, by kernel_rfl⟩
theorem ar4 (n : Int) (l : List Rw) (row : Rw) : aj Tryz.prog 99 [pT n l, pZ row] (aq [pB (l.any fun r => decide (r = row))]) := by
 refine ag (nt := 9) af Tryz.func99 rfl rfl l9 ?_; refine sx7 ?_; refine m9 0 ?_; refine m9 1 ?_; refine qy ?_; refine a6 ?_; refine a7 ?_; refine ct 3 rfl rfl rfl ?_; refine gy ?_
 (iterate 3 refine qy ?_); refine rc rfl rfl rfl rfl rfl rfl ave (b1z l 151 1 (fun i => [bxZ (zl row)].getD i .any) (fun r => decide (r = row)) av6 (fun r => aym r row)) (CoL.refl _) rfl rfl ?_; refine qy ?_
 refine a6 ?_
 exact hx8 rfl rfl rfl (CoL.refl _)
theorem auc : goodFn Tryz.prog 233 := ⟨Tryz.f233, Tryz.func233, by kernel_rfl, by kernel_rfl⟩
theorem b1q (x : Int) : aj Tryz.prog 233 [pI x] (aq [pB (decide (x < 0))]) := by
 refine ag (nt := 5) af Tryz.func233 rfl rfl l9 ?_; refine sx7 ?_; refine qy ?_; refine a6 ?_; refine sx7 ?_; (iterate 3 refine qy ?_); refine a6 ?_
 exact hx8 rfl rfl rfl (CoL.refl _)
theorem uy : goodFn Tryz.prog 176 := ⟨Tryz.f176, Tryz.func176, by kernel_rfl, by kernel_rfl⟩
theorem v6 (a b : Rw) (s : AS) (h : b.length = a.length) (h16 : a.length ≤ 16) : aj Tryz.prog 176 [pZ a, pZ b, pA s] (aq [pB (gz a b s)]) := by
 refine ag (nt := 28) af Tryz.func176 rfl rfl l9 ?_; refine a7 ?_
 refine ce 0 rfl fun hn0 => ?_
 refine ce 1 rfl fun hn1 => ?_
 refine gy ?_; refine qy ?_; refine a6 ?_; refine df (ι := Unit) ⟨[], []⟩ ⟨trivial, trivial⟩ (fun _i => ⟨[], []⟩) (fun _i => gz a b s = true) ?_ ?_
 ·
  refine sx7 ?_; refine qy ?_; refine a6 ?_; refine ae ?_
  refine ak (ι := Nat) ⟨[(0, some _), (1, some _), (2, some _)], []⟩ ⟨⟨c9, c9, c9, trivial⟩, trivial⟩ (fun i => ⟨[(7, some (vI i))], []⟩) (fun i => i ≤ a.length ∧ (∀ j : Nat, j < i → (d2 s (j : Int) = true → a.getD j default = b.getD j default))) (fun i => a.length - i) (0) (⟨Nat.zero_le _, bt⟩) ⟨⟨zy, trivial⟩, trivial⟩ ?_
  rintro i ⟨hi, hI⟩
  refine a7 ?_; refine sx7 ?_; (iterate 4 refine qy ?_); refine a6 ?_; refine a8 _ rfl (fun r0 => ?_) (fun r0 => ?_)
  ·
   have h0 := of_decide_eq_true r0
   try simp only [ty] at h0
   refine aa ?_; refine a7 ?_; refine ae ?_; refine a7 ?_; refine ay (E := b6) af au [0, 1, 2, 3, 4, 5, 6, 7, 8, 9, 10, 11, 12, 13] ?_; (iterate 2 refine qy ?_)
   refine rc rfl rfl rfl rfl rfl rfl qk (a43 s (i : Int)) (CoL.refl _) rfl rfl ?_; refine qy ?_; refine bh rfl rfl (fun r1 => ?_) (fun r1 => ?_)
   ·
    have h1 := r1
    (iterate 9 refine qy ?_ (hg := (gtt r1))); refine qy ?_; refine a6 ?_; refine ⟨by kernel_rfl, ?_⟩; refine a8 _ rfl (fun r2 => ?_) (fun r2 => ?_)
    ·
     have h2 := r2
     have h2 := dw r1 h2
     have h2 := of_decide_eq_false (az h2)
     try simp only [ty] at h2
     refine sx7 ?_; refine qy ?_; refine a6 ?_
     exact hx8 rfl rfl rfl (⟨ccb (ak1 (i := i) (by omega) (by simp_all) (by simp_all)).symm, trivial⟩)
    ·
     have h2 := r2
     have h2 := dw r1 h2
     have h2 := of_decide_eq_true (b4 h2)
     try simp only [ty] at h2
     refine aa ?_; refine gy ?_; (iterate 3 refine qy ?_); refine a6 ?_; refine ⟨i + 1, ?_, ?_, ?_⟩
     · exact ⟨by show i + 1 ≤ _; omega, be hI (fun hh => by simp_all)⟩
     · first | omega | (dsimp only; omega)
     · exact ⟨⟨zy, c9, c9, c9, trivial⟩, trivial⟩
   ·
    have h1 := r1
    (iterate 9 refine k9 (gft r1) ?_); refine rq rfl rfl rfl rfl rfl ?_ (hp := r1); refine a6 ?_; refine ⟨by kernel_rfl, ?_⟩; refine a8 _ rfl (fun e => by cases e) (fun _ => ?_); refine aa ?_; refine gy ?_
    (iterate 3 refine qy ?_); refine a6 ?_; refine ⟨i + 1, ?_, ?_, ?_⟩
    · exact ⟨by show i + 1 ≤ _; omega, be hI (fun hh => by simp_all)⟩
    · first | omega | (dsimp only; omega)
    · exact ⟨⟨zy, c9, c9, c9, trivial⟩, trivial⟩
  ·
   have h0 := of_decide_eq_false r0
   try simp only [ty] at h0
   refine am ?_; refine ⟨(), ?_, ?_⟩
   · exact ub fun j hj => hI j (by omega)
   · exact ⟨trivial, trivial⟩
 · rintro _ hj
   refine sx7 ?_; refine qy ?_; refine a6 ?_
   exact hx8 rfl rfl rfl (⟨ccb hj.symm, trivial⟩)
theorem vf : goodFn Tryz.prog 216 := ⟨Tryz.f216, Tryz.func216, by kernel_rfl, by kernel_rfl⟩
theorem xy (a b : Rw) (s : AS) (h : b.length = a.length) (h16 : a.length ≤ 16) : aj Tryz.prog 216 [pZ a, pZ b, pA s] (aq [pB (gz a b s)]) := by
 refine ag (nt := 30) af Tryz.func216 rfl rfl l9 ?_; refine a7 ?_
 refine ce 0 rfl fun hn0 => ?_
 refine ce 1 rfl fun hn1 => ?_
 refine gy ?_; refine qy ?_; refine a6 ?_; refine df (ι := Unit) ⟨[], []⟩ ⟨trivial, trivial⟩ (fun _i => ⟨[], []⟩) (fun _i => gz a b s = true) ?_ ?_
 ·
  refine sx7 ?_; (iterate 3 refine qy ?_); refine a6 ?_; refine ae ?_
  refine ak (ι := Nat) ⟨[(0, some _), (1, some _), (2, some _), (9, some _)], []⟩ ⟨⟨c9, c9, c9, c9, trivial⟩, trivial⟩ (fun i => ⟨[(10, some (vI i))], []⟩) (fun i => i ≤ a.length ∧ (∀ j : Nat, j < i → (d2 s (j : Int) = true → a.getD j default = b.getD j default))) (fun i => a.length - i) (0) (⟨Nat.zero_le _, bt⟩) ⟨⟨zy, trivial⟩, trivial⟩ ?_
  rintro i ⟨hi, hI⟩
  refine sx7 ?_; refine qy ?_; refine a6 ?_; refine a7 ?_; refine a8 _ rfl (fun r0 => ?_) (fun r0 => ?_)
  ·
   have h0 := of_decide_eq_true r0
   try simp only [ty] at h0
   refine aa ?_; refine a7 ?_; refine ae ?_; refine sx7 ?_; (iterate 2 refine qy ?_); refine a6 ?_; refine a7 ?_
   refine ay (E := b6) af au [0, 1, 2, 3, 4, 5, 6, 7, 8, 9, 10, 11, 12, 13, 14, 15] ?_; (iterate 6 refine qy ?_); refine bh rfl rfl (fun r1 => ?_) (fun r1 => ?_)
   ·
    have h1 := of_decide_eq_true r1
    try simp only [ty] at h1
    (iterate 9 refine qy ?_ (hg := (gtt r1))); refine qy ?_; refine a6 ?_; refine ⟨by kernel_rfl, ?_⟩; refine a8 _ rfl (fun r2 => ?_) (fun r2 => ?_)
    ·
     have h2 := r2
     have h2 := dw r1 h2
     have h2 := of_decide_eq_false (az h2)
     try simp only [ty] at h2
     refine sx7 ?_; refine qy ?_; refine a6 ?_
     exact hx8 rfl rfl rfl (⟨ccb (ak1 (i := i) (by omega) ((n8 (by omega)).1 (by assumption)) (by assumption)).symm, trivial⟩)
    ·
     have h2 := r2
     have h2 := dw r1 h2
     have h2 := of_decide_eq_true (b4 h2)
     try simp only [ty] at h2
     refine aa ?_; refine gy ?_; (iterate 2 refine qy ?_); refine a6 ?_; refine ⟨i + 1, ?_, ?_, ?_⟩
     · exact ⟨by show i + 1 ≤ _; omega, be hI (fun hh => by first | (exact absurd ((n8 (by omega)).2 hh) (by assumption)) | assumption)⟩
     · first | omega | (dsimp only; omega)
     · exact ⟨⟨zy, c9, c9, c9, c9, trivial⟩, trivial⟩
   ·
    have h1 := of_decide_eq_false r1
    try simp only [ty] at h1
    (iterate 9 refine k9 (gft r1) ?_); refine rq rfl rfl rfl rfl rfl ?_ (hp := r1); refine a6 ?_; refine ⟨by kernel_rfl, ?_⟩; refine a8 _ rfl (fun e => by cases e) (fun _ => ?_); refine aa ?_; refine gy ?_
    (iterate 2 refine qy ?_); refine a6 ?_; refine ⟨i + 1, ?_, ?_, ?_⟩
    · exact ⟨by show i + 1 ≤ _; omega, be hI (fun hh => by first | (exact absurd ((n8 (by omega)).2 hh) (by assumption)) | assumption)⟩
    · first | omega | (dsimp only; omega)
    · exact ⟨⟨zy, c9, c9, c9, c9, trivial⟩, trivial⟩
  ·
   have h0 := of_decide_eq_false r0
   try simp only [ty] at h0
   refine am ?_; refine ⟨(), ?_, ?_⟩
   · exact ub fun j hj => hI j (by omega)
   · exact ⟨trivial, trivial⟩
 · rintro _ hj
   refine sx7 ?_; refine qy ?_; refine a6 ?_
   exact hx8 rfl rfl rfl (⟨ccb hj.symm, trivial⟩)
end Go.Hx
end
section
namespace Go.Hx
def ck (n : Int) (l m : List Fd) : Int := if ca n l = 0 then (if 64 < m.length then 3 else if m.all (inU n) = true then 0 else 1) else ca n l
section
variable {n : Int} {l m : List Fd}
theorem ag2 (h : ¬ ca n l = 0) : ca n l = ck n l m := by unfold ck; rw [if_neg h]
theorem aly (h : ca n l = 0) (h2 : 64 < m.length) : 3 = ck n l m := by unfold ck; rw [if_pos h, if_pos h2]
theorem a8o {i : Nat} (h : ca n l = 0) (h2 : ¬ 64 < m.length) (hi : i < m.length) (hu : ¬ inU n (m.getD i default) = true) : 1 = ck n l m := by
 unfold ck
 rw [if_pos h, if_neg h2, if_neg (fun e => absurd (a2p (l := m) (p := inU n) hi (Bool.eq_false_iff.2 hu)) (by rw [e]; decide))]
theorem ail (h : ca n l = 0) (h2 : ¬ 64 < m.length) (hu : ∀ j, j < m.length → inU n (m.getD j default) = true) : 0 = ck n l m := by
 unfold ck
 rw [if_pos h, if_neg h2, if_pos (a7q hu)]
theorem qf (h : ck n l m = 0) : 0 ≤ n ∧ n ≤ 16 ∧ l.length ≤ 64 ∧ l.all (inU n) = true ∧ m.length ≤ 64 ∧ m.all (inU n) = true := by
 unfold ck at h
 by_cases h1 : ca n l = 0
 · rw [if_pos h1] at h
   obtain ⟨a, b, c, d⟩ := it h1
   by_cases h2 : 64 < m.length
   · rw [if_pos h2] at h; omega
   · rw [if_neg h2] at h
     by_cases h3 : m.all (inU n) = true
     · exact ⟨a, b, c, d, by omega, h3⟩
     · rw [if_neg h3] at h; omega
 · rw [if_neg h1] at h; exact absurd h h1
end
theorem yz {n : Int} {l : List Rw} {i : Nat} (h1 : ((l.getD i default).length : Int) = n) (h2 : (l.getD i default).any (fun x => decide (x < 0)) = false) (h3 : i = 0 ∨ ltZ (l.getD (i - 1) default) (l.getD i default) = true) : jw n l i = true := by
 unfold jw
 rw [decide_eq_true h1, h2]
 rcases h3 with h3 | h3
 · rw [decide_eq_true h3]; rfl
 · rw [h3]; simp
theorem ze {n : Int} {l : List Rw} {i : Nat} (h : ¬ ((l.getD i default).length : Int) = n) : jw n l i = false := by unfold jw; rw [decide_eq_false h]; rfl
theorem qp {n : Int} {l : List Rw} {i : Nat} (h : (l.getD i default).any (fun x => decide (x < 0)) = true) : jw n l i = false := by unfold jw; rw [h]; simp
theorem uw {n : Int} {l : List Rw} {i : Nat} (h0 : 0 < i) (h : ¬ ltZ (l.getD (i - 1) default) (l.getD i default) = true) : jw n l i = false := by
 unfold jw
 rw [Bool.eq_false_iff.2 h, decide_eq_false (by omega : ¬ i = 0)]
 simp
theorem wj {a b : Rw} : lb a b < 0 ↔ ltZ a b = true := by
 unfold lb
 by_cases e : a = b
 · subst e
   rw [if_pos rfl, np]
   exact ⟨fun h => absurd h (by omega), fun h => by cases h⟩
 · rw [if_neg e]
   by_cases h : ltZ a b = true
   · rw [if_pos h]; exact ⟨fun _ => h, fun _ => by omega⟩
   · rw [if_neg h]; exact ⟨fun h => absurd h (by omega), fun h2 => absurd h2 h⟩
end Go.Hx
end
section
namespace Go.Hx
open Go.Proofs
set_option maxRecDepth 100000
theorem ado : goodFn Tryz.prog 105 := ⟨Tryz.f105, Tryz.func105, by kernel_rfl, by kernel_rfl⟩
theorem ad1 (n : Int) (s : AS) : aj Tryz.prog 105 [pI n, pA s] (aq [pB (decide (sub s (bw n)))]) := by
 refine ag (nt := 9) af Tryz.func105 rfl rfl l9 ?_; refine sx7 ?_; refine qy ?_; refine a6 ?_; refine sx7 ?_; (iterate 2 refine qy ?_); refine rc rfl rfl rfl rfl rfl rfl yk (y9 n) (CoL.refl _) rfl rfl ?_
 refine rc rfl rfl rfl rfl rfl rfl yi (a3n _ _) (CoL.refl _) rfl rfl ?_; refine qy ?_; refine a6 ?_
 exact hx8 rfl rfl rfl (CoL.refl _)
theorem ag1 : goodFn Tryz.prog 91 := ⟨Tryz.f91, Tryz.func91, by kernel_rfl, by kernel_rfl⟩
theorem act (n : Int) (l m : List Fd) : aj Tryz.prog 91 [pI n, pP (fdl l), pP (fdl m)] (aq [pI (ck n l m)]) := by
 refine ag (nt := 34) af Tryz.func91 rfl rfl l9 ?_; refine a7 ?_
 refine ce 2 rfl fun hn2 => ?_
 refine gy ?_; refine qy ?_; refine a6 ?_; refine a7 ?_; refine sx7 ?_; (iterate 2 refine qy ?_); refine rc rfl rfl rfl rfl rfl rfl yh (xf n l) (CoL.refl _) rfl rfl ?_; refine qy ?_; refine a6 ?_; refine sx7 ?_
 (iterate 2 refine qy ?_); refine a6 ?_; refine a8 _ rfl (fun r0 => ?_) (fun r0 => ?_)
 ·
  have h0 := r0
  have h0 := of_decide_eq_false (az h0)
  try simp only [ty] at h0
  refine sx7 ?_; (iterate 2 refine qy ?_); refine a6 ?_
  exact hx8 rfl rfl rfl (⟨cci (ag2 (by assumption)), trivial⟩)
 ·
  have h0 := r0
  have h0 := of_decide_eq_true (b4 h0)
  try simp only [ty] at h0
  have hv0 : ca n l = 0 := by assumption
  obtain ⟨hn0, hn16, _, _⟩ := it hv0
  refine aa ?_; refine a7 ?_; refine sx7 ?_; (iterate 3 refine qy ?_); refine a6 ?_; refine a8 _ rfl (fun r1 => ?_) (fun r1 => ?_)
  ·
   have h1 := of_decide_eq_true r1
   try simp only [ty] at h1
   refine sx7 ?_; refine qy ?_; refine a6 ?_
   exact hx8 rfl rfl rfl (⟨cci (aly hv0 (by omega)), trivial⟩)
  ·
   have h1 := of_decide_eq_false r1
   try simp only [ty] at h1
   refine aa ?_; refine df (ι := Unit) ⟨[], []⟩ ⟨trivial, trivial⟩ (fun _i => ⟨[], []⟩) (fun _i => ∀ j, j < m.length → inU n (m.getD j default) = true) ?_ ?_
   ·
    refine sx7 ?_; (iterate 3 refine qy ?_); refine a6 ?_; refine ae ?_
    refine ak (ι := Nat) ⟨[(0, some _), (19, some _), (20, some _)], []⟩ ⟨⟨c9, c9, c9, trivial⟩, trivial⟩ (fun i => ⟨[(21, some (vI i))], []⟩) (fun i => i ≤ m.length ∧ (∀ j, j < i → inU n (m.getD j default) = true)) (fun i => m.length - i) (0) (⟨Nat.zero_le _, bt⟩) ⟨⟨zy, trivial⟩, trivial⟩ ?_
    rintro i ⟨hi, hI⟩
    refine sx7 ?_; refine qy ?_; refine a6 ?_; refine a7 ?_; refine a8 _ rfl (fun r2 => ?_) (fun r2 => ?_)
    ·
     have h2 := of_decide_eq_true r2
     try simp only [ty] at h2
     refine aa ?_; refine a7 ?_; refine ae ?_; refine sx7 ?_; (iterate 2 refine qy ?_); refine m9 0 ?_; refine s9 ?_; refine a6 ?_; refine sx7 ?_; (iterate 8 refine qy ?_); refine a6 ?_
     refine a8 _ rfl (fun r3 => ?_) (fun r3 => ?_)
     ·
      have h3 := r3
      have h3 := of_decide_eq_false (az h3)
      try simp only [ty] at h3
      refine sx7 ?_; refine qy ?_; refine a6 ?_
      exact hx8 rfl rfl rfl (⟨cci (a8o (i := i) hv0 (by omega) (by omega) (fun e => absurd (zq.2 e) (by assumption))), trivial⟩)
     ·
      have h3 := r3
      have h3 := of_decide_eq_true (b4 h3)
      try simp only [ty] at h3
      refine aa ?_; refine gy ?_; (iterate 2 refine qy ?_); refine a6 ?_; refine ⟨i + 1, ?_, ?_, ?_⟩
      · exact ⟨by show i + 1 ≤ _; omega, be hI (zq.1 (by assumption))⟩
      · first | omega | (dsimp only; omega)
      · exact ⟨⟨zy, c9, c9, c9, trivial⟩, trivial⟩
    ·
     have h2 := of_decide_eq_false r2
     try simp only [ty] at h2
     refine am ?_; refine ⟨(), ?_, ?_⟩
     · exact fun j hj => hI j (by omega)
     · exact ⟨trivial, trivial⟩
   · rintro _ hj
     refine sx7 ?_; refine qy ?_; refine a6 ?_
     exact hx8 rfl rfl rfl (⟨cci (ail hv0 (by omega) hj), trivial⟩)
theorem zk : goodFn Tryz.prog 104 := ⟨Tryz.f104, Tryz.func104, by kernel_rfl, by kernel_rfl⟩
theorem x3 (n : Int) (l m : List Fd) : aj Tryz.prog 104 [pI n, pP (fdl l), pP (fdl m)] (aq [pI (ck n l m)]) := by
 refine ag (nt := 42) af Tryz.func104 rfl rfl l9 ?_; refine a7 ?_
 refine ce 2 rfl fun hn2 => ?_
 refine gy ?_; refine qy ?_; refine a6 ?_; refine a7 ?_; refine sx7 ?_; (iterate 2 refine qy ?_); refine rc rfl rfl rfl rfl rfl rfl axg (atj n l) (CoL.refl _) rfl rfl ?_; refine qy ?_; refine a6 ?_; refine sx7 ?_
 (iterate 2 refine qy ?_); refine a6 ?_; refine a8 _ rfl (fun r0 => ?_) (fun r0 => ?_)
 ·
  have h0 := r0
  have h0 := of_decide_eq_false (az h0)
  try simp only [ty] at h0
  refine sx7 ?_; (iterate 2 refine qy ?_); refine a6 ?_
  exact hx8 rfl rfl rfl (⟨cci (ag2 (by assumption)), trivial⟩)
 ·
  have h0 := r0
  have h0 := of_decide_eq_true (b4 h0)
  try simp only [ty] at h0
  have hv0 : ca n l = 0 := by assumption
  obtain ⟨hn0, hn16, _, _⟩ := it hv0
  refine aa ?_; refine a7 ?_; refine sx7 ?_; (iterate 3 refine qy ?_); refine a6 ?_; refine a8 _ rfl (fun r1 => ?_) (fun r1 => ?_)
  ·
   have h1 := of_decide_eq_true r1
   try simp only [ty] at h1
   refine sx7 ?_; refine qy ?_; refine a6 ?_
   exact hx8 rfl rfl rfl (⟨cci (aly hv0 (by omega)), trivial⟩)
  ·
   have h1 := of_decide_eq_false r1
   try simp only [ty] at h1
   refine aa ?_; refine df (ι := Unit) ⟨[], []⟩ ⟨trivial, trivial⟩ (fun _i => ⟨[], []⟩) (fun _i => ∀ j, j < m.length → inU n (m.getD j default) = true) ?_ ?_
   ·
    refine sx7 ?_; refine qy ?_; refine a6 ?_; refine ae ?_
    refine ak (ι := Nat) ⟨[(0, some _), (2, some _)], []⟩ ⟨⟨c9, c9, trivial⟩, trivial⟩ (fun i => ⟨[(8, some (vI i))], []⟩) (fun i => i ≤ m.length ∧ (∀ j, j < i → inU n (m.getD j default) = true)) (fun i => m.length - i) (0) (⟨Nat.zero_le _, bt⟩) ⟨⟨zy, trivial⟩, trivial⟩ ?_
    rintro i ⟨hi, hI⟩
    refine a7 ?_; refine sx7 ?_; (iterate 4 refine qy ?_); refine a6 ?_; refine a8 _ rfl (fun r2 => ?_) (fun r2 => ?_)
    ·
     have h2 := of_decide_eq_true r2
     try simp only [ty] at h2
     refine aa ?_; refine a7 ?_; refine ae ?_; refine sx7 ?_; (iterate 6 refine qy ?_); refine rc rfl rfl rfl rfl rfl rfl ado (ad1 n _) (CoL.refl _) rfl rfl ?_; (iterate 2 refine qy ?_)
     refine bh rfl rfl (fun r3 => ?_) (fun r3 => ?_)
     ·
      have h3 := r3
      have h3 := az h3
      (iterate 8 refine k9 (gtf r3) ?_); refine rq rfl rfl rfl rfl rfl ?_ (hp := r3); refine a6 ?_; refine a8 _ rfl (fun _ => ?_) (fun e => by cases e); refine sx7 ?_; refine qy ?_; refine a6 ?_
      exact hx8 rfl rfl rfl (⟨cci (a8o (i := i) hv0 (by omega) (by omega) (fun e => by rw [o9 (by omega) (by omega)] at e; simp_all)), trivial⟩)
     ·
      have h3 := r3
      have h3 := b4 h3
      (iterate 6 refine qy ?_ (hg := (gff r3))); refine rc rfl rfl rfl rfl rfl rfl ado (ad1 n _) (CoL.refl _) rfl (gff r3) ?_; refine qy ?_ (hg := (gff r3)); refine qy ?_; refine a6 ?_
      refine a8 _ rfl (fun r4 => ?_) (fun r4 => ?_)
      ·
       have h4 := r4
       have h4 := bo r3 h4
       have h4 := az h4
       refine sx7 ?_; refine qy ?_; refine a6 ?_
       exact hx8 rfl rfl rfl (⟨cci (a8o (i := i) hv0 (by omega) (by omega) (fun e => by rw [o9 (by omega) (by omega)] at e; simp_all)), trivial⟩)
      ·
       have h4 := r4
       have h4 := bo r3 h4
       have h4 := b4 h4
       refine aa ?_; refine gy ?_; (iterate 3 refine qy ?_); refine a6 ?_; refine ⟨i + 1, ?_, ?_, ?_⟩
       · exact ⟨by show i + 1 ≤ _; omega, be hI ((o9 (by omega) (by omega)).2 (by simp_all))⟩
       · first | omega | (dsimp only; omega)
       · exact ⟨⟨zy, c9, c9, trivial⟩, trivial⟩
    ·
     have h2 := of_decide_eq_false r2
     try simp only [ty] at h2
     refine am ?_; refine ⟨(), ?_, ?_⟩
     · exact fun j hj => hI j (by omega)
     · exact ⟨trivial, trivial⟩
   · rintro _ hj
     refine sx7 ?_; refine qy ?_; refine a6 ?_
     exact hx8 rfl rfl rfl (⟨cci (ail hv0 (by omega) hj), trivial⟩)
end Go.Hx
end
