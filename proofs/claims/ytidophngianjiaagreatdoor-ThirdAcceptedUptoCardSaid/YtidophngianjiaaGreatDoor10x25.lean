/- A part of the proof: Ch2 X1 X2 Ch3 X3. -/
import Derived.Test.YtidophngianjiaaGreatDoor10x16
import Derived.Test.YtidophngianjiaaGreatDoor10x18
import Derived.Test.YtidophngianjiaaGreatDoor10x24
set_option linter.all false
section
namespace Go.Hx
abbrev pZ (r : Rw) : PC := .one (zl r)
abbrev pR (l : List Rw) : PC := .one (rl l)
abbrev pT (n : Int) (l : List Rw) : PC := .agg [.raw (.int .i64 n), rl l]
theorem ad3 : ∀ {a b : Rw} {i : Nat}, i < a.length → i < b.length → (∀ j, j < i → a.getD j default = b.getD j default) → ¬ a.getD i default = b.getD i default → ltZ a b = decide (a.getD i default < b.getD i default)
 | [], _, _, h, _, _, _ => by simp at h
 | _ :: _, [], _, _, h, _, _ => by simp at h
 | x :: a, y :: b, 0, _, _, _, hn => by
  have : ¬ x = y := hn
  unfold ltZ
  rw [if_neg this]
  rfl
 | x :: a, y :: b, i + 1, ha, hb, h, hn => by
  have e : x = y := h 0 (by omega)
  unfold ltZ
  rw [if_pos e]
  exact ad3 (by simpa using ha) (by simpa using hb) (fun j hj => h (j + 1) (by omega)) hn
theorem a13 : ∀ {a b : Rw}, (∀ j, j < a.length → j < b.length → a.getD j default = b.getD j default) → ltZ a b = decide (a.length < b.length)
 | [], [], _ => rfl
 | [], _ :: _, _ => by simp [ltZ]
 | _ :: _, [], _ => by simp [ltZ]
 | x :: a, y :: b, h => by
  have e : x = y := h 0 (by simp) (by simp)
  unfold ltZ
  rw [if_pos e, a13 fun j h1 h2 => h (j + 1) (by simpa using h1) (by simpa using h2)]
  simp
def mh (a b : Rw) : Int := if a = b then 0 else if ltZ a b = true then -1 else 1
theorem au5 {a b : Rw} {i : Nat} (ha : i < a.length) (hb : i < b.length) (h : ∀ j, j < i → a.getD j default = b.getD j default) (hn : ¬ ij (a.getD i default) (b.getD i default) = 0) : ij (a.getD i default) (b.getD i default) = mh a b := by
 have hne : ¬ a.getD i default = b.getD i default := fun e => hn (by unfold ij; rw [if_neg (by omega), if_neg (by omega)])
 unfold ij mh
 rw [if_neg (fun e : a = b => hne (by rw [e])), ad3 ha hb h hne]
 simp only [decide_eq_true_eq]
 split
 · rfl
 · rw [if_pos (by omega)]
theorem azz {a b : Int} (h : ij a b = 0) : a = b := by
 unfold ij at h
 split at h
 · omega
 · split at h <;> omega
theorem ato {a b : Rw} {i : Nat} (ha : i < a.length) (hb : ¬ i < b.length) (h : ∀ j, j < i → a.getD j default = b.getD j default) : (1 : Int) = mh a b := by
 unfold mh
 rw [if_neg (fun e : a = b => by subst e; omega), a13 fun j h1 h2 => h j (by omega), if_neg (by simp only [decide_eq_true_eq]; omega)]
theorem ate {a b : Rw} (hl : a.length < b.length) (h : ∀ j, j < a.length → a.getD j default = b.getD j default) : (-1 : Int) = mh a b := by
 unfold mh
 rw [if_neg (fun e : a = b => by subst e; omega), a13 fun j h1 h2 => h j h1, if_pos (by simp only [decide_eq_true_eq]; omega)]
theorem aug {a b : Rw} (hl : a.length ≤ b.length) (hl2 : ¬ a.length < b.length) (h : ∀ j, j < a.length → a.getD j default = b.getD j default) : (0 : Int) = mh a b := by
 unfold mh
 rw [if_pos (kb (by omega) h)]
theorem ari {a b : Rw} (h : a.length = b.length) (hI : ∀ j, j < a.length → decide (a.getD j default = b.getD j default) = true) : a = b := kb h fun j hj => of_decide_eq_true (hI j hj)
theorem ayt {a b : Nat} (h : ∀ j, j < a → j < b) : a ≤ b := Nat.le_of_not_lt fun e => Nat.lt_irrefl _ (h b e)
def j0 (a b : Rw) (s : AS) : Bool := decide (∀ i : Nat, i < a.length → (cn s (i : Int) = true → a.getD i default = b.getD i default))
theorem am9 {a b : Rw} {s : AS} {i : Nat} (hi : i < a.length) (h : cn s (i : Int) = true) (hn : ¬ a.getD i default = b.getD i default) : j0 a b s = false := decide_eq_false fun e => hn (e i hi h)
theorem wg {a b : Rw} {s : AS} (h : ∀ i : Nat, i < a.length → (cn s (i : Int) = true → a.getD i default = b.getD i default)) : j0 a b s = true := decide_eq_true h
theorem od {s : AS} {i : Nat} (h : i < 32) : ca .and .u32 ((asI s).fdiv (2 ^ (min i 32))) 1 = 1 ↔ cn s (i : Int) = true := by
 rw [← a9y (s := s) (i := (i : Int)) (by omega) (by omega), decide_eq_true_iff]
 rfl
def l7 (n : Int) (l : List Rw) (i : Nat) : Bool := decide (((l.getD i default).length : Int) = n) && !(l.getD i default).any (fun x => decide (x < 0)) && (decide (i = 0) || ltZ (l.getD (i - 1) default) (l.getD i default))
def tok (n : Int) (l : List Rw) : Bool := decide (0 ≤ n ∧ n ≤ 16 ∧ l.length ≤ 256) && decide (∀ i, i < l.length → l7 n l i = true)
theorem ahi {n : Int} {l : List Rw} (h0 : 0 ≤ n) (h1 : n ≤ 16) (h2 : l.length ≤ 256) (h : ∀ i, i < l.length → l7 n l i = true) : tok n l = true := by
 unfold tok
 rw [decide_eq_true (show 0 ≤ n ∧ n ≤ 16 ∧ l.length ≤ 256 from ⟨h0, h1, h2⟩), decide_eq_true h]
 rfl
theorem w9 {n : Int} {l : List Rw} (h : ¬ (0 ≤ n ∧ n ≤ 16 ∧ l.length ≤ 256)) : tok n l = false := by
 unfold tok
 rw [decide_eq_false h]
 rfl
theorem xo {n : Int} {l : List Rw} {i : Nat} (hi : i < l.length) (h : l7 n l i = false) : tok n l = false := by
 unfold tok
 rw [decide_eq_false (fun e : ∀ i, i < l.length → l7 n l i = true => by rw [e i hi] at h; cases h), Bool.and_false]
def da (a b : Rw) (s : AS) : Rw := (List.range b.length).map fun (i : Nat) => if cn s (i : Int) = true then a.getD i default else b.getD i default
end Go.Hx
end
section
namespace Go.Hx
open Go.Proofs
set_option maxRecDepth 100000
set_option maxHeartbeats 1000000
theorem asu : goodFn Tryz.prog 245 := ⟨Tryz.f245, Tryz.func245, by kernel_rfl, by kernel_rfl⟩
theorem b34 (l : List Int) (g k : Nat) (caps : Nat → PV) (V : Int → Bool) (hg : goodFn Tryz.prog g) (hV : ∀ x, ah Tryz.prog g (pI x :: iw caps k 0) (ap [pB (V x)])) : ah Tryz.prog 245 [pP (zl l), pP (.fn g k caps)] (ap [pI (idx V l)]) := by
 refine ag (nt := 19) af Tryz.func245 rfl rfl l9 ?_; refine a7 ?_
 refine d1 0 rfl fun hn => ?_
 refine gy ?_; refine qy ?_; refine a6 ?_; refine dg (ι := Unit) ⟨[], []⟩ ⟨trivial, trivial⟩ (fun _i => ⟨[], []⟩) (fun _i => idx V l = -1) ?_ ?_
 ·
  refine sx7 ?_; (iterate 3 refine qy ?_); refine a6 ?_; refine ae ?_
  refine ai (ι := Nat) ⟨[(0, some _), (1, some _), (7, some _)], []⟩ ⟨⟨c9, c9, c9, trivial⟩, trivial⟩ (fun i => ⟨[(8, some (vI i))], []⟩) (fun i => i ≤ l.length ∧ (∀ j, j < i → V (l.getD j default) = false)) (fun i => l.length - i) (0) (⟨Nat.zero_le _, bu⟩) ⟨⟨zy, trivial⟩, trivial⟩ ?_
  rintro i ⟨hi, hI⟩
  refine sx7 ?_; refine qy ?_; refine a6 ?_; refine a7 ?_; refine a8 _ rfl (fun r0 => ?_) (fun r0 => ?_)
  ·
   have h0 := of_decide_eq_true r0
   try simp only [ty] at h0
   refine aa ?_; refine a7 ?_; refine ae ?_; refine sx7 ?_; (iterate 2 refine qy ?_); refine a6 ?_; refine sx7 ?_; (iterate 5 refine qy ?_)
   refine rc rfl rfl rfl rfl rfl rfl hg (hV (l.getD i default)) (CoL.refl _) rfl rfl ?_; refine a6 ?_; refine a8 _ rfl (fun r1 => ?_) (fun r1 => ?_)
   ·
    have h1 := r1
    refine sx7 ?_; (iterate 2 refine qy ?_); refine a6 ?_
    exact hx8 rfl rfl rfl (⟨cci (xh (i := i) (by omega) hI h1).symm, trivial⟩)
   ·
    have h1 := r1
    refine aa ?_; refine gy ?_; (iterate 2 refine qy ?_); refine a6 ?_; refine ⟨i + 1, ?_, ?_, ?_⟩
    · exact ⟨by show i + 1 ≤ _; omega, bf hI (h1)⟩
    · first | omega | (dsimp only; omega)
    · exact ⟨⟨zy, c9, c9, c9, trivial⟩, trivial⟩
  ·
   have h0 := of_decide_eq_false r0
   try simp only [ty] at h0
   refine ak ?_; refine ⟨(), ?_, ?_⟩
   · exact xx fun j hj => hI j (by omega)
   · exact ⟨trivial, trivial⟩
 · rintro _ hj
   refine sx7 ?_; refine qy ?_; refine a6 ?_
   exact hx8 rfl rfl rfl (⟨cci hj.symm, trivial⟩)
theorem avi : goodFn Tryz.prog 184 := ⟨Tryz.f184, Tryz.func184, by kernel_rfl, by kernel_rfl⟩
theorem b2z (l : List Rw) (g k : Nat) (caps : Nat → PV) (V : Rw → Bool) (hg : goodFn Tryz.prog g) (hV : ∀ x, ah Tryz.prog g (pZ x :: iw caps k 0) (ap [pB (V x)])) : ah Tryz.prog 184 [pP (rl l), pP (.fn g k caps)] (ap [pI (idx V l)]) := by
 refine ag (nt := 19) af Tryz.func184 rfl rfl l9 ?_; refine a7 ?_
 refine d1 0 rfl fun hn => ?_
 refine gy ?_; refine qy ?_; refine a6 ?_; refine dg (ι := Unit) ⟨[], []⟩ ⟨trivial, trivial⟩ (fun _i => ⟨[], []⟩) (fun _i => idx V l = -1) ?_ ?_
 ·
  refine sx7 ?_; (iterate 3 refine qy ?_); refine a6 ?_; refine ae ?_
  refine ai (ι := Nat) ⟨[(0, some _), (1, some _), (7, some _)], []⟩ ⟨⟨c9, c9, c9, trivial⟩, trivial⟩ (fun i => ⟨[(8, some (vI i))], []⟩) (fun i => i ≤ l.length ∧ (∀ j, j < i → V (l.getD j default) = false)) (fun i => l.length - i) (0) (⟨Nat.zero_le _, bu⟩) ⟨⟨zy, trivial⟩, trivial⟩ ?_
  rintro i ⟨hi, hI⟩
  refine sx7 ?_; refine qy ?_; refine a6 ?_; refine a7 ?_; refine a8 _ rfl (fun r0 => ?_) (fun r0 => ?_)
  ·
   have h0 := of_decide_eq_true r0
   try simp only [ty] at h0
   refine aa ?_; refine a7 ?_; refine ae ?_; refine sx7 ?_; (iterate 2 refine qy ?_); refine a6 ?_; refine sx7 ?_; (iterate 5 refine qy ?_)
   refine rc rfl rfl rfl rfl rfl rfl hg (hV (l.getD i default)) (CoL.refl _) rfl rfl ?_; refine a6 ?_; refine a8 _ rfl (fun r1 => ?_) (fun r1 => ?_)
   ·
    have h1 := r1
    refine sx7 ?_; (iterate 2 refine qy ?_); refine a6 ?_
    exact hx8 rfl rfl rfl (⟨cci (xh (i := i) (by omega) hI h1).symm, trivial⟩)
   ·
    have h1 := r1
    refine aa ?_; refine gy ?_; (iterate 2 refine qy ?_); refine a6 ?_; refine ⟨i + 1, ?_, ?_, ?_⟩
    · exact ⟨by show i + 1 ≤ _; omega, bf hI (h1)⟩
    · first | omega | (dsimp only; omega)
    · exact ⟨⟨zy, c9, c9, c9, trivial⟩, trivial⟩
  ·
   have h0 := of_decide_eq_false r0
   try simp only [ty] at h0
   refine ak ?_; refine ⟨(), ?_, ?_⟩
   · exact xx fun j hj => hI j (by omega)
   · exact ⟨trivial, trivial⟩
 · rintro _ hj
   refine sx7 ?_; refine qy ?_; refine a6 ?_
   exact hx8 rfl rfl rfl (⟨cci hj.symm, trivial⟩)
theorem aud : goodFn Tryz.prog 232 := ⟨Tryz.f232, Tryz.func232, by kernel_rfl, by kernel_rfl⟩
theorem b31 (l : List Int) (g k : Nat) (caps : Nat → PV) (V : Int → Bool) (hg : goodFn Tryz.prog g) (hV : ∀ x, ah Tryz.prog g (pI x :: iw caps k 0) (ap [pB (V x)])) : ah Tryz.prog 232 [pP (zl l), pP (.fn g k caps)] (ap [pB (l.any V)]) := by
 refine ag (nt := 9) af Tryz.func232 rfl rfl l9 ?_; refine sx7 ?_; refine qy ?_; refine a6 ?_; refine sx7 ?_; (iterate 2 refine qy ?_)
 refine rc rfl rfl rfl rfl rfl rfl asu (b34 l g k caps V hg hV) (CoL.refl _) rfl rfl ?_; (iterate 2 refine qy ?_); refine a6 ?_
 exact hx8 rfl rfl rfl (⟨ccb zj, trivial⟩)
theorem avb : goodFn Tryz.prog 150 := ⟨Tryz.f150, Tryz.func150, by kernel_rfl, by kernel_rfl⟩
theorem b32 (l : List Rw) (g k : Nat) (caps : Nat → PV) (V : Rw → Bool) (hg : goodFn Tryz.prog g) (hV : ∀ x, ah Tryz.prog g (pZ x :: iw caps k 0) (ap [pB (V x)])) : ah Tryz.prog 150 [pP (rl l), pP (.fn g k caps)] (ap [pB (l.any V)]) := by
 refine ag (nt := 9) af Tryz.func150 rfl rfl l9 ?_; refine sx7 ?_; refine qy ?_; refine a6 ?_; refine sx7 ?_; (iterate 2 refine qy ?_)
 refine rc rfl rfl rfl rfl rfl rfl avi (b2z l g k caps V hg hV) (CoL.refl _) rfl rfl ?_; (iterate 2 refine qy ?_); refine a6 ?_
 exact hx8 rfl rfl rfl (⟨ccb zj, trivial⟩)
theorem a7c : goodFn Tryz.prog 152 := ⟨Tryz.f152, Tryz.func152, by kernel_rfl, by kernel_rfl⟩
theorem aq1 (a b : Rw) : ah Tryz.prog 152 [pZ a, pZ b] (ap [pB (decide (a = b))]) := by
 refine ag (nt := 26) af Tryz.func152 rfl rfl l9 ?_; refine a7 ?_
 refine d1 0 rfl fun hn0 => ?_
 refine d1 1 rfl fun hn1 => ?_
 refine gy ?_; refine qy ?_; refine a6 ?_; refine a7 ?_; refine sx7 ?_; (iterate 5 refine qy ?_); refine a6 ?_; refine a8 _ rfl (fun r0 => ?_) (fun r0 => ?_)
 ·
  have h0 := r0
  have h0 := of_decide_eq_false (ax h0)
  try simp only [ty] at h0
  refine sx7 ?_; refine qy ?_; refine a6 ?_
  exact hx8 rfl rfl rfl (⟨ccb (decide_eq_false fun e => by subst e; omega).symm, trivial⟩)
 ·
  have h0 := r0
  have h0 := of_decide_eq_true (aw h0)
  try simp only [ty] at h0
  refine aa ?_; refine dg (ι := Unit) ⟨[], []⟩ ⟨trivial, trivial⟩ (fun _i => ⟨[], []⟩) (fun _i => a = b) ?_ ?_
  ·
   refine sx7 ?_; (iterate 3 refine qy ?_); refine a6 ?_; refine ae ?_
   refine ai (ι := Nat) ⟨[(0, some _), (1, some _), (12, some _)], []⟩ ⟨⟨c9, c9, c9, trivial⟩, trivial⟩ (fun i => ⟨[(13, some (vI i))], []⟩) (fun i => i ≤ a.length ∧ (∀ j, j < i → decide (a.getD j default = b.getD j default) = true)) (fun i => a.length - i) (0) (⟨Nat.zero_le _, bu⟩) ⟨⟨zy, trivial⟩, trivial⟩ ?_
   rintro i ⟨hi, hI⟩
   refine sx7 ?_; refine qy ?_; refine a6 ?_; refine a7 ?_; refine a8 _ rfl (fun r1 => ?_) (fun r1 => ?_)
   ·
    have h1 := of_decide_eq_true r1
    try simp only [ty] at h1
    refine aa ?_; refine a7 ?_; refine ae ?_; refine sx7 ?_; (iterate 2 refine qy ?_); refine a6 ?_; refine a7 ?_; refine b7 (E := bm) af ar [0, 1, 2, 3, 4, 5, 6, 7, 8] ?_
    (iterate 9 refine qy ?_); refine a6 ?_; refine ⟨by kernel_rfl, ?_⟩; refine a8 _ rfl (fun r2 => ?_) (fun r2 => ?_)
    ·
     have h2 := r2
     have h2 := of_decide_eq_false (ax h2)
     try simp only [ty] at h2
     refine sx7 ?_; refine qy ?_; refine a6 ?_
     exact hx8 rfl rfl rfl (⟨ccb (decide_eq_false fun e => by subst e; simp_all).symm, trivial⟩)
    ·
     have h2 := r2
     have h2 := of_decide_eq_true (aw h2)
     try simp only [ty] at h2
     refine aa ?_; refine gy ?_; (iterate 2 refine qy ?_); refine a6 ?_; refine ⟨i + 1, ?_, ?_, ?_⟩
     · exact ⟨by show i + 1 ≤ _; omega, bf hI (decide_eq_true (by simp_all))⟩
     · first | omega | (dsimp only; omega)
     · exact ⟨⟨zy, c9, c9, c9, trivial⟩, trivial⟩
   ·
    have h1 := of_decide_eq_false r1
    try simp only [ty] at h1
    refine ak ?_; refine ⟨(), ?_, ?_⟩
    · exact ari (by omega) fun j hj => hI j (by omega)
    · exact ⟨trivial, trivial⟩
  · rintro _ hj
    refine sx7 ?_; refine qy ?_; refine a6 ?_
    exact hx8 rfl rfl rfl (⟨ccb (decide_eq_true hj).symm, trivial⟩)
theorem awa : goodFn Tryz.prog 147 := ⟨Tryz.f147, Tryz.func147, by kernel_rfl, by kernel_rfl⟩
theorem b1f (a b : Rw) : ah Tryz.prog 147 [pZ a, pZ b] (ap [pB (decide (a = b))]) := by
 refine ag (nt := 26) af Tryz.func147 rfl rfl l9 ?_; refine a7 ?_
 refine d1 0 rfl fun hn0 => ?_
 refine d1 1 rfl fun hn1 => ?_
 refine gy ?_; refine qy ?_; refine a6 ?_; refine a7 ?_; refine sx7 ?_; (iterate 5 refine qy ?_); refine a6 ?_; refine a8 _ rfl (fun r0 => ?_) (fun r0 => ?_)
 ·
  have h0 := r0
  have h0 := of_decide_eq_false (ax h0)
  try simp only [ty] at h0
  refine sx7 ?_; refine qy ?_; refine a6 ?_
  exact hx8 rfl rfl rfl (⟨ccb (decide_eq_false fun e => by subst e; omega).symm, trivial⟩)
 ·
  have h0 := r0
  have h0 := of_decide_eq_true (aw h0)
  try simp only [ty] at h0
  refine aa ?_; refine dg (ι := Unit) ⟨[], []⟩ ⟨trivial, trivial⟩ (fun _i => ⟨[], []⟩) (fun _i => a = b) ?_ ?_
  ·
   refine sx7 ?_; refine qy ?_; refine a6 ?_; refine ae ?_
   refine ai (ι := Nat) ⟨[(0, some _), (1, some _)], []⟩ ⟨⟨c9, c9, trivial⟩, trivial⟩ (fun i => ⟨[(5, some (vI i))], []⟩) (fun i => i ≤ a.length ∧ (∀ j, j < i → decide (a.getD j default = b.getD j default) = true)) (fun i => a.length - i) (0) (⟨Nat.zero_le _, bu⟩) ⟨⟨zy, trivial⟩, trivial⟩ ?_
   rintro i ⟨hi, hI⟩
   refine a7 ?_; refine sx7 ?_; (iterate 4 refine qy ?_); refine a6 ?_; refine a8 _ rfl (fun r1 => ?_) (fun r1 => ?_)
   ·
    have h1 := of_decide_eq_true r1
    try simp only [ty] at h1
    refine aa ?_; refine a7 ?_; refine ae ?_; refine a7 ?_; refine b7 (E := bm) af ar [0, 1, 2, 3, 4, 5, 6, 7, 8] ?_; (iterate 9 refine qy ?_); refine a6 ?_; refine ⟨by kernel_rfl, ?_⟩
    refine a8 _ rfl (fun r2 => ?_) (fun r2 => ?_)
    ·
     have h2 := r2
     have h2 := of_decide_eq_false (ax h2)
     try simp only [ty] at h2
     refine sx7 ?_; refine qy ?_; refine a6 ?_
     exact hx8 rfl rfl rfl (⟨ccb (decide_eq_false fun e => by subst e; simp_all).symm, trivial⟩)
    ·
     have h2 := r2
     have h2 := of_decide_eq_true (aw h2)
     try simp only [ty] at h2
     refine aa ?_; refine gy ?_; (iterate 3 refine qy ?_); refine a6 ?_; refine ⟨i + 1, ?_, ?_, ?_⟩
     · exact ⟨by show i + 1 ≤ _; omega, bf hI (decide_eq_true (by simp_all))⟩
     · first | omega | (dsimp only; omega)
     · exact ⟨⟨zy, c9, c9, trivial⟩, trivial⟩
   ·
    have h1 := of_decide_eq_false r1
    try simp only [ty] at h1
    refine ak ?_; refine ⟨(), ?_, ?_⟩
    · exact ari (by omega) fun j hj => hI j (by omega)
    · exact ⟨trivial, trivial⟩
  · rintro _ hj
    refine sx7 ?_; refine qy ?_; refine a6 ?_
    exact hx8 rfl rfl rfl (⟨ccb (decide_eq_true hj).symm, trivial⟩)
theorem ave : goodFn Tryz.prog 212 := ⟨Tryz.f212, Tryz.func212, by kernel_rfl, by kernel_rfl⟩
theorem asg (a b : Rw) : ah Tryz.prog 212 [pZ a, pZ b] (ap [pI (mh a b)]) := by
 refine ag (nt := 36) af Tryz.func212 rfl rfl l9 ?_; refine a7 ?_
 refine d1 0 rfl fun hn0 => ?_
 refine d1 1 rfl fun hn1 => ?_
 refine gy ?_; refine qy ?_; refine a6 ?_
 refine dg (ι := Unit) ⟨[(0, some _), (1, some _)], []⟩ ⟨⟨c9, c9, trivial⟩, trivial⟩ (fun _i => ⟨[], []⟩) (fun _i => ∀ j, j < a.length → j < b.length ∧ a.getD j default = b.getD j default) ?_ ?_
 ·
  refine sx7 ?_; (iterate 3 refine qy ?_); refine a6 ?_; refine ae ?_
  refine ai (ι := Nat) ⟨[(0, some _), (1, some _), (9, some _), (10, some _)], []⟩ ⟨⟨c9, c9, c9, c9, trivial⟩, trivial⟩ (fun i => ⟨[(11, some (vI i))], []⟩) (fun i => i ≤ a.length ∧ (∀ j, j < i → j < b.length ∧ a.getD j default = b.getD j default)) (fun i => a.length - i) (0) (⟨Nat.zero_le _, bu⟩) ⟨⟨zy, trivial⟩, trivial⟩ ?_
  rintro i ⟨hi, hI⟩
  refine sx7 ?_; refine qy ?_; refine a6 ?_; refine a7 ?_; refine a8 _ rfl (fun r0 => ?_) (fun r0 => ?_)
  ·
   have h0 := of_decide_eq_true r0
   try simp only [ty] at h0
   refine aa ?_; refine a7 ?_; refine ae ?_; refine sx7 ?_; (iterate 5 refine qy ?_); refine a6 ?_; refine a7 ?_; refine sx7 ?_; (iterate 4 refine qy ?_); refine a6 ?_
   refine a8 _ rfl (fun r1 => ?_) (fun r1 => ?_)
   ·
    have h1 := of_decide_eq_true r1
    try simp only [ty] at h1
    refine sx7 ?_; refine qy ?_; refine a6 ?_
    exact hx8 rfl rfl rfl (⟨cci (ato (i := i) (by omega) (by omega) fun j hj => (hI j hj).2), trivial⟩)
   ·
    have h1 := of_decide_eq_false r1
    try simp only [ty] at h1
    refine aa ?_; refine sx7 ?_; (iterate 5 refine qy ?_); refine a6 ?_; refine sx7 ?_; (iterate 2 refine qy ?_)
    refine rc rfl rfl rfl rfl rfl rfl afa (arp (a.getD i default) (b.getD i default)) (CoL.refl _) rfl rfl ?_; refine qy ?_; refine a6 ?_; refine sx7 ?_; (iterate 2 refine qy ?_); refine a6 ?_
    refine a8 _ rfl (fun r2 => ?_) (fun r2 => ?_)
    ·
     have h2 := r2
     have h2 := of_decide_eq_false (ax h2)
     try simp only [ty] at h2
     refine sx7 ?_; (iterate 2 refine qy ?_); refine a6 ?_
     exact hx8 rfl rfl rfl (⟨cci (au5 (i := i) (by omega) (by omega) (fun j hj => (hI j hj).2) (by assumption)), trivial⟩)
    ·
     have h2 := r2
     have h2 := of_decide_eq_true (aw h2)
     try simp only [ty] at h2
     refine aa ?_; refine gy ?_; (iterate 2 refine qy ?_); refine a6 ?_; refine ⟨i + 1, ?_, ?_, ?_⟩
     · exact ⟨by show i + 1 ≤ _; omega, bf hI (⟨by omega, azz (by assumption)⟩)⟩
     · first | omega | (dsimp only; omega)
     · exact ⟨⟨zy, c9, c9, c9, c9, trivial⟩, trivial⟩
  ·
   have h0 := of_decide_eq_false r0
   try simp only [ty] at h0
   refine ak ?_; refine ⟨(), ?_, ?_⟩
   · exact fun j hj => hI j (by omega)
   · exact ⟨⟨c9, c9, trivial⟩, trivial⟩
 · rintro _ hj
   refine a7 ?_; refine sx7 ?_; (iterate 5 refine qy ?_); refine a6 ?_; refine a8 _ rfl (fun r3 => ?_) (fun r3 => ?_)
   ·
    have h3 := of_decide_eq_true r3
    try simp only [ty] at h3
    refine sx7 ?_; refine qy ?_; refine a6 ?_
    exact hx8 rfl rfl rfl (⟨cci (ate (by omega) fun j h => (hj j h).2), trivial⟩)
   ·
    have h3 := of_decide_eq_false r3
    try simp only [ty] at h3
    refine aa ?_; refine sx7 ?_; refine qy ?_; refine a6 ?_
    exact hx8 rfl rfl rfl (⟨cci (aug (ayt fun j h => (hj j h).1) (by omega) fun j h => (hj j h).2), trivial⟩)
theorem af6 : goodFn Tryz.prog 209 := ⟨Tryz.f209, Tryz.func209, by kernel_rfl, by kernel_rfl⟩
theorem as1 (a b : Rw) : ah Tryz.prog 209 [pZ a, pZ b] (ap [pB (ltZ a b)]) := by
 refine ag (nt := 41) af Tryz.func209 rfl rfl l9 ?_; refine a7 ?_
 refine d1 0 rfl fun hn0 => ?_
 refine d1 1 rfl fun hn1 => ?_
 refine gy ?_; refine qy ?_; refine a6 ?_
 refine dg (ι := Unit) ⟨[(0, some _), (1, some _)], []⟩ ⟨⟨c9, c9, trivial⟩, trivial⟩ (fun _i => ⟨[], []⟩) (fun _i => ∀ j, j < a.length → j < b.length → a.getD j default = b.getD j default) ?_ ?_
 ·
  refine sx7 ?_; refine qy ?_; refine a6 ?_; refine ae ?_
  refine ai (ι := Nat) ⟨[(0, some _), (1, some _)], []⟩ ⟨⟨c9, c9, trivial⟩, trivial⟩ (fun i => ⟨[(5, some (vI i))], []⟩) (fun i => i ≤ a.length ∧ (∀ j, j < i → j < b.length ∧ a.getD j default = b.getD j default)) (fun i => a.length - i) (0) (⟨Nat.zero_le _, bu⟩) ⟨⟨zy, trivial⟩, trivial⟩ ?_
  rintro i ⟨hi, hI⟩
  refine a7 ?_; refine sx7 ?_; (iterate 5 refine qy ?_); refine bc rfl rfl (fun r0 => ?_) (fun r0 => ?_)
  ·
   have h0 := of_decide_eq_true r0
   try simp only [ty] at h0
   (iterate 4 refine qy ?_ (hg := (gtt r0))); refine qy ?_; refine a6 ?_; refine a8 _ rfl (fun r1 => ?_) (fun r1 => ?_)
   ·
    have h1 := r1
    have h1 := cj r0 h1
    have h1 := of_decide_eq_true h1
    try simp only [ty] at h1
    refine aa ?_; refine a7 ?_; refine ae ?_; refine a7 ?_; refine b7 (E := bm) af ar [0, 1, 2, 3, 4, 5, 6, 7, 8] ?_; (iterate 9 refine qy ?_); refine a6 ?_; refine ⟨by kernel_rfl, ?_⟩
    refine a8 _ rfl (fun r2 => ?_) (fun r2 => ?_)
    ·
     have h2 := r2
     have h2 := of_decide_eq_false (ax h2)
     try simp only [ty] at h2
     refine a7 ?_; refine b7 (E := bm) af ar [0, 1, 2, 3, 4, 5, 6, 7, 8, 9] ?_; (iterate 10 refine qy ?_); refine a6 ?_; refine ⟨by kernel_rfl, ?_⟩
     exact hx8 rfl rfl rfl (⟨ccb (ad3 (i := i) (by omega) (by omega) (fun j h => (hI j h).2) (by assumption)).symm, trivial⟩)
    ·
     have h2 := r2
     have h2 := of_decide_eq_true (aw h2)
     try simp only [ty] at h2
     refine aa ?_; refine gy ?_; (iterate 3 refine qy ?_); refine a6 ?_; refine ⟨i + 1, ?_, ?_, ?_⟩
     · exact ⟨by show i + 1 ≤ _; omega, bf hI (⟨by omega, by assumption⟩)⟩
     · first | omega | (dsimp only; omega)
     · exact ⟨⟨zy, c9, c9, trivial⟩, trivial⟩
   ·
    have h1 := r1
    have h1 := cj r0 h1
    have h1 := of_decide_eq_false h1
    try simp only [ty] at h1
    refine ak ?_; refine ⟨(), ?_, ?_⟩
    · exact fun j h1 h2 => (hI j (by omega)).2
    · exact ⟨⟨c9, c9, trivial⟩, trivial⟩
  ·
   have h0 := of_decide_eq_false r0
   try simp only [ty] at h0
   (iterate 4 refine k9 (gft r0) ?_); refine rq rfl rfl rfl rfl rfl ?_ (hp := r0); refine a6 ?_; refine a8 _ rfl (fun e => by cases e) (fun _ => ?_); refine ak ?_; refine ⟨(), ?_, ?_⟩
   · exact fun j h1 h2 => (hI j (by omega)).2
   · exact ⟨⟨c9, c9, trivial⟩, trivial⟩
 · rintro _ hj
   refine sx7 ?_; (iterate 6 refine qy ?_); refine a6 ?_
   exact hx8 rfl rfl rfl (⟨ccb (by rw [a13 hj, decide_eq_decide]; omega), trivial⟩)
end Go.Hx
end
section
namespace Go.Hx
open Go.Proofs
set_option maxRecDepth 100000
abbrev bxZ (a : PV) : PV := .vp 1 fun j => [a].getD j .any
theorem asj : goodFn Tryz.prog 151 := ⟨Tryz.f151, Tryz.func151, by kernel_rfl, by kernel_rfl⟩
theorem ayh (r row : Rw) : ah Tryz.prog 151 [pZ r, pP (bxZ (zl row))] (ap [pB (decide (r = row))]) := by
 refine ag (nt := 7) af Tryz.func151 rfl rfl l9 ?_; refine sx7 ?_; refine qy ?_; refine a6 ?_; refine sx7 ?_; (iterate 2 refine qy ?_); refine rc rfl rfl rfl rfl rfl rfl a7c (aq1 _ _) (CoL.refl _) rfl rfl ?_
 refine qy ?_; refine a6 ?_
 exact hx8 rfl rfl rfl (CoL.refl _)
theorem aku : goodFn Tryz.prog 99 := ⟨Tryz.f99, Tryz.func99, by kernel_rfl, by kernel_rfl⟩
theorem asc (n : Int) (l : List Rw) (row : Rw) : ah Tryz.prog 99 [pT n l, pZ row] (ap [pB (l.any fun r => decide (r = row))]) := by
 refine ag (nt := 9) af Tryz.func99 rfl rfl l9 ?_; refine sx7 ?_; refine m9 0 ?_; refine m9 1 ?_; refine qy ?_; refine a6 ?_; refine a7 ?_; refine kw 3 rfl rfl rfl ?_; refine gy ?_
 (iterate 3 refine qy ?_); refine rc rfl rfl rfl rfl rfl rfl avb (b32 l 151 1 (fun i => [bxZ (zl row)].getD i .any) (fun r => decide (r = row)) asj (fun r => ayh r row)) (CoL.refl _) rfl rfl ?_; refine qy ?_
 refine a6 ?_
 exact hx8 rfl rfl rfl (CoL.refl _)
theorem avu : goodFn Tryz.prog 233 := ⟨Tryz.f233, Tryz.func233, by kernel_rfl, by kernel_rfl⟩
theorem b2r (x : Int) : ah Tryz.prog 233 [pI x] (ap [pB (decide (x < 0))]) := by
 refine ag (nt := 5) af Tryz.func233 rfl rfl l9 ?_; refine sx7 ?_; refine qy ?_; refine a6 ?_; refine sx7 ?_; (iterate 3 refine qy ?_); refine a6 ?_
 exact hx8 rfl rfl rfl (CoL.refl _)
theorem wh : goodFn Tryz.prog 176 := ⟨Tryz.f176, Tryz.func176, by kernel_rfl, by kernel_rfl⟩
theorem wa (a b : Rw) (s : AS) (h : b.length = a.length) (h16 : a.length ≤ 16) : ah Tryz.prog 176 [pZ a, pZ b, pA s] (ap [pB (j0 a b s)]) := by
 refine ag (nt := 28) af Tryz.func176 rfl rfl l9 ?_; refine a7 ?_
 refine d1 0 rfl fun hn0 => ?_
 refine d1 1 rfl fun hn1 => ?_
 refine gy ?_; refine qy ?_; refine a6 ?_; refine dg (ι := Unit) ⟨[], []⟩ ⟨trivial, trivial⟩ (fun _i => ⟨[], []⟩) (fun _i => j0 a b s = true) ?_ ?_
 ·
  refine sx7 ?_; refine qy ?_; refine a6 ?_; refine ae ?_
  refine ai (ι := Nat) ⟨[(0, some _), (1, some _), (2, some _)], []⟩ ⟨⟨c9, c9, c9, trivial⟩, trivial⟩ (fun i => ⟨[(7, some (vI i))], []⟩) (fun i => i ≤ a.length ∧ (∀ j : Nat, j < i → (cn s (j : Int) = true → a.getD j default = b.getD j default))) (fun i => a.length - i) (0) (⟨Nat.zero_le _, bu⟩) ⟨⟨zy, trivial⟩, trivial⟩ ?_
  rintro i ⟨hi, hI⟩
  refine a7 ?_; refine sx7 ?_; (iterate 4 refine qy ?_); refine a6 ?_; refine a8 _ rfl (fun r0 => ?_) (fun r0 => ?_)
  ·
   have h0 := of_decide_eq_true r0
   try simp only [ty] at h0
   refine aa ?_; refine a7 ?_; refine ae ?_; refine a7 ?_; refine b7 (E := bm) af ar [0, 1, 2, 3, 4, 5, 6, 7, 8, 9, 10, 11, 12, 13] ?_; (iterate 2 refine qy ?_)
   refine rc rfl rfl rfl rfl rfl rfl sb (a6x s (i : Int)) (CoL.refl _) rfl rfl ?_; refine qy ?_; refine bc rfl rfl (fun r1 => ?_) (fun r1 => ?_)
   ·
    have h1 := r1
    (iterate 9 refine qy ?_ (hg := (gtt r1))); refine qy ?_; refine a6 ?_; refine ⟨by kernel_rfl, ?_⟩; refine a8 _ rfl (fun r2 => ?_) (fun r2 => ?_)
    ·
     have h2 := r2
     have h2 := cj r1 h2
     have h2 := of_decide_eq_false (ax h2)
     try simp only [ty] at h2
     refine sx7 ?_; refine qy ?_; refine a6 ?_
     exact hx8 rfl rfl rfl (⟨ccb (am9 (i := i) (by omega) (by simp_all) (by simp_all)).symm, trivial⟩)
    ·
     have h2 := r2
     have h2 := cj r1 h2
     have h2 := of_decide_eq_true (aw h2)
     try simp only [ty] at h2
     refine aa ?_; refine gy ?_; (iterate 3 refine qy ?_); refine a6 ?_; refine ⟨i + 1, ?_, ?_, ?_⟩
     · exact ⟨by show i + 1 ≤ _; omega, bf hI (fun hh => by simp_all)⟩
     · first | omega | (dsimp only; omega)
     · exact ⟨⟨zy, c9, c9, c9, trivial⟩, trivial⟩
   ·
    have h1 := r1
    (iterate 9 refine k9 (gft r1) ?_); refine rq rfl rfl rfl rfl rfl ?_ (hp := r1); refine a6 ?_; refine ⟨by kernel_rfl, ?_⟩; refine a8 _ rfl (fun e => by cases e) (fun _ => ?_); refine aa ?_; refine gy ?_
    (iterate 3 refine qy ?_); refine a6 ?_; refine ⟨i + 1, ?_, ?_, ?_⟩
    · exact ⟨by show i + 1 ≤ _; omega, bf hI (fun hh => by simp_all)⟩
    · first | omega | (dsimp only; omega)
    · exact ⟨⟨zy, c9, c9, c9, trivial⟩, trivial⟩
  ·
   have h0 := of_decide_eq_false r0
   try simp only [ty] at h0
   refine ak ?_; refine ⟨(), ?_, ?_⟩
   · exact wg fun j hj => hI j (by omega)
   · exact ⟨trivial, trivial⟩
 · rintro _ hj
   refine sx7 ?_; refine qy ?_; refine a6 ?_
   exact hx8 rfl rfl rfl (⟨ccb hj.symm, trivial⟩)
theorem w8 : goodFn Tryz.prog 216 := ⟨Tryz.f216, Tryz.func216, by kernel_rfl, by kernel_rfl⟩
theorem za (a b : Rw) (s : AS) (h : b.length = a.length) (h16 : a.length ≤ 16) : ah Tryz.prog 216 [pZ a, pZ b, pA s] (ap [pB (j0 a b s)]) := by
 refine ag (nt := 30) af Tryz.func216 rfl rfl l9 ?_; refine a7 ?_
 refine d1 0 rfl fun hn0 => ?_
 refine d1 1 rfl fun hn1 => ?_
 refine gy ?_; refine qy ?_; refine a6 ?_; refine dg (ι := Unit) ⟨[], []⟩ ⟨trivial, trivial⟩ (fun _i => ⟨[], []⟩) (fun _i => j0 a b s = true) ?_ ?_
 ·
  refine sx7 ?_; (iterate 3 refine qy ?_); refine a6 ?_; refine ae ?_
  refine ai (ι := Nat) ⟨[(0, some _), (1, some _), (2, some _), (9, some _)], []⟩ ⟨⟨c9, c9, c9, c9, trivial⟩, trivial⟩ (fun i => ⟨[(10, some (vI i))], []⟩) (fun i => i ≤ a.length ∧ (∀ j : Nat, j < i → (cn s (j : Int) = true → a.getD j default = b.getD j default))) (fun i => a.length - i) (0) (⟨Nat.zero_le _, bu⟩) ⟨⟨zy, trivial⟩, trivial⟩ ?_
  rintro i ⟨hi, hI⟩
  refine sx7 ?_; refine qy ?_; refine a6 ?_; refine a7 ?_; refine a8 _ rfl (fun r0 => ?_) (fun r0 => ?_)
  ·
   have h0 := of_decide_eq_true r0
   try simp only [ty] at h0
   refine aa ?_; refine a7 ?_; refine ae ?_; refine sx7 ?_; (iterate 2 refine qy ?_); refine a6 ?_; refine a7 ?_
   refine b7 (E := bm) af ar [0, 1, 2, 3, 4, 5, 6, 7, 8, 9, 10, 11, 12, 13, 14, 15] ?_; (iterate 6 refine qy ?_); refine bc rfl rfl (fun r1 => ?_) (fun r1 => ?_)
   ·
    have h1 := of_decide_eq_true r1
    try simp only [ty] at h1
    (iterate 9 refine qy ?_ (hg := (gtt r1))); refine qy ?_; refine a6 ?_; refine ⟨by kernel_rfl, ?_⟩; refine a8 _ rfl (fun r2 => ?_) (fun r2 => ?_)
    ·
     have h2 := r2
     have h2 := cj r1 h2
     have h2 := of_decide_eq_false (ax h2)
     try simp only [ty] at h2
     refine sx7 ?_; refine qy ?_; refine a6 ?_
     exact hx8 rfl rfl rfl (⟨ccb (am9 (i := i) (by omega) ((od (by omega)).1 (by assumption)) (by assumption)).symm, trivial⟩)
    ·
     have h2 := r2
     have h2 := cj r1 h2
     have h2 := of_decide_eq_true (aw h2)
     try simp only [ty] at h2
     refine aa ?_; refine gy ?_; (iterate 2 refine qy ?_); refine a6 ?_; refine ⟨i + 1, ?_, ?_, ?_⟩
     · exact ⟨by show i + 1 ≤ _; omega, bf hI (fun hh => by first | (exact absurd ((od (by omega)).2 hh) (by assumption)) | assumption)⟩
     · first | omega | (dsimp only; omega)
     · exact ⟨⟨zy, c9, c9, c9, c9, trivial⟩, trivial⟩
   ·
    have h1 := of_decide_eq_false r1
    try simp only [ty] at h1
    (iterate 9 refine k9 (gft r1) ?_); refine rq rfl rfl rfl rfl rfl ?_ (hp := r1); refine a6 ?_; refine ⟨by kernel_rfl, ?_⟩; refine a8 _ rfl (fun e => by cases e) (fun _ => ?_); refine aa ?_; refine gy ?_
    (iterate 2 refine qy ?_); refine a6 ?_; refine ⟨i + 1, ?_, ?_, ?_⟩
    · exact ⟨by show i + 1 ≤ _; omega, bf hI (fun hh => by first | (exact absurd ((od (by omega)).2 hh) (by assumption)) | assumption)⟩
    · first | omega | (dsimp only; omega)
    · exact ⟨⟨zy, c9, c9, c9, c9, trivial⟩, trivial⟩
  ·
   have h0 := of_decide_eq_false r0
   try simp only [ty] at h0
   refine ak ?_; refine ⟨(), ?_, ?_⟩
   · exact wg fun j hj => hI j (by omega)
   · exact ⟨trivial, trivial⟩
 · rintro _ hj
   refine sx7 ?_; refine qy ?_; refine a6 ?_
   exact hx8 rfl rfl rfl (⟨ccb hj.symm, trivial⟩)
end Go.Hx
end
section
namespace Go.Hx
def cu (n : Int) (l m : List Fd) : Int := if av n l = 0 then (if 64 < m.length then 3 else if m.all (inU n) = true then 0 else 1) else av n l
section
variable {n : Int} {l m : List Fd}
theorem ajg (h : ¬ av n l = 0) : av n l = cu n l m := by unfold cu; rw [if_neg h]
theorem aj5 (h : av n l = 0) (h2 : 64 < m.length) : 3 = cu n l m := by unfold cu; rw [if_pos h, if_pos h2]
theorem abh {i : Nat} (h : av n l = 0) (h2 : ¬ 64 < m.length) (hi : i < m.length) (hu : ¬ inU n (m.getD i default) = true) : 1 = cu n l m := by
 unfold cu
 rw [if_pos h, if_neg h2, if_neg (fun e => absurd (a4d (l := m) (p := inU n) hi (Bool.eq_false_iff.2 hu)) (by rw [e]; decide))]
theorem aaq (h : av n l = 0) (h2 : ¬ 64 < m.length) (hu : ∀ j, j < m.length → inU n (m.getD j default) = true) : 0 = cu n l m := by
 unfold cu
 rw [if_pos h, if_neg h2, if_pos (aa5 hu)]
theorem sc (h : cu n l m = 0) : 0 ≤ n ∧ n ≤ 16 ∧ l.length ≤ 64 ∧ l.all (inU n) = true ∧ m.length ≤ 64 ∧ m.all (inU n) = true := by
 unfold cu at h
 by_cases h1 : av n l = 0
 · rw [if_pos h1] at h
   obtain ⟨a, b, c, d⟩ := cr h1
   by_cases h2 : 64 < m.length
   · rw [if_pos h2] at h; omega
   · rw [if_neg h2] at h
     by_cases h3 : m.all (inU n) = true
     · exact ⟨a, b, c, d, by omega, h3⟩
     · rw [if_neg h3] at h; omega
 · rw [if_neg h1] at h; exact absurd h h1
end
theorem a0l {n : Int} {l : List Rw} {i : Nat} (h1 : ((l.getD i default).length : Int) = n) (h2 : (l.getD i default).any (fun x => decide (x < 0)) = false) (h3 : i = 0 ∨ ltZ (l.getD (i - 1) default) (l.getD i default) = true) : l7 n l i = true := by
 unfold l7
 rw [decide_eq_true h1, h2]
 rcases h3 with h3 | h3
 · rw [decide_eq_true h3]; rfl
 · rw [h3]; simp
theorem a17 {n : Int} {l : List Rw} {i : Nat} (h : ¬ ((l.getD i default).length : Int) = n) : l7 n l i = false := by unfold l7; rw [decide_eq_false h]; rfl
theorem sr {n : Int} {l : List Rw} {i : Nat} (h : (l.getD i default).any (fun x => decide (x < 0)) = true) : l7 n l i = false := by unfold l7; rw [h]; simp
theorem wt {n : Int} {l : List Rw} {i : Nat} (h0 : 0 < i) (h : ¬ ltZ (l.getD (i - 1) default) (l.getD i default) = true) : l7 n l i = false := by
 unfold l7
 rw [Bool.eq_false_iff.2 h, decide_eq_false (by omega : ¬ i = 0)]
 simp
theorem yd {a b : Rw} : mh a b < 0 ↔ ltZ a b = true := by
 unfold mh
 by_cases e : a = b
 · subst e
   rw [if_pos rfl, p8]
   exact ⟨fun h => absurd h (by omega), fun h => by cases h⟩
 · rw [if_neg e]
   by_cases h : ltZ a b = true
   · rw [if_pos h]; exact ⟨fun _ => h, fun _ => by omega⟩
   · rw [if_neg h]; exact ⟨fun h => absurd h (by omega), fun h2 => absurd h2 h⟩
end Go.Hx
end
section
namespace Go.Hx
open Go.Proofs
set_option maxRecDepth 100000
theorem afw : goodFn Tryz.prog 105 := ⟨Tryz.f105, Tryz.func105, by kernel_rfl, by kernel_rfl⟩
theorem afg (n : Int) (s : AS) : ah Tryz.prog 105 [pI n, pA s] (ap [pB (decide (sub s (aq n)))]) := by
 refine ag (nt := 9) af Tryz.func105 rfl rfl l9 ?_; refine sx7 ?_; refine qy ?_; refine a6 ?_; refine sx7 ?_; (iterate 2 refine qy ?_); refine rc rfl rfl rfl rfl rfl rfl zd (a0s n) (CoL.refl _) rfl rfl ?_
 refine rc rfl rfl rfl rfl rfl rfl u7 (y3 _ _) (CoL.refl _) rfl rfl ?_; refine qy ?_; refine a6 ?_
 exact hx8 rfl rfl rfl (CoL.refl _)
theorem ams : goodFn Tryz.prog 91 := ⟨Tryz.f91, Tryz.func91, by kernel_rfl, by kernel_rfl⟩
theorem af5 (n : Int) (l m : List Fd) : ah Tryz.prog 91 [pI n, pP (fdl l), pP (fdl m)] (ap [pI (cu n l m)]) := by
 refine ag (nt := 34) af Tryz.func91 rfl rfl l9 ?_; refine a7 ?_
 refine d1 2 rfl fun hn2 => ?_
 refine gy ?_; refine qy ?_; refine a6 ?_; refine a7 ?_; refine sx7 ?_; (iterate 2 refine qy ?_); refine rc rfl rfl rfl rfl rfl rfl tj (sx n l) (CoL.refl _) rfl rfl ?_; refine qy ?_; refine a6 ?_; refine sx7 ?_
 (iterate 2 refine qy ?_); refine a6 ?_; refine a8 _ rfl (fun r0 => ?_) (fun r0 => ?_)
 ·
  have h0 := r0
  have h0 := of_decide_eq_false (ax h0)
  try simp only [ty] at h0
  refine sx7 ?_; (iterate 2 refine qy ?_); refine a6 ?_
  exact hx8 rfl rfl rfl (⟨cci (ajg (by assumption)), trivial⟩)
 ·
  have h0 := r0
  have h0 := of_decide_eq_true (aw h0)
  try simp only [ty] at h0
  have hv0 : av n l = 0 := by assumption
  obtain ⟨hn0, hn16, _, _⟩ := cr hv0
  refine aa ?_; refine a7 ?_; refine sx7 ?_; (iterate 3 refine qy ?_); refine a6 ?_; refine a8 _ rfl (fun r1 => ?_) (fun r1 => ?_)
  ·
   have h1 := of_decide_eq_true r1
   try simp only [ty] at h1
   refine sx7 ?_; refine qy ?_; refine a6 ?_
   exact hx8 rfl rfl rfl (⟨cci (aj5 hv0 (by omega)), trivial⟩)
  ·
   have h1 := of_decide_eq_false r1
   try simp only [ty] at h1
   refine aa ?_; refine dg (ι := Unit) ⟨[], []⟩ ⟨trivial, trivial⟩ (fun _i => ⟨[], []⟩) (fun _i => ∀ j, j < m.length → inU n (m.getD j default) = true) ?_ ?_
   ·
    refine sx7 ?_; (iterate 3 refine qy ?_); refine a6 ?_; refine ae ?_
    refine ai (ι := Nat) ⟨[(0, some _), (19, some _), (20, some _)], []⟩ ⟨⟨c9, c9, c9, trivial⟩, trivial⟩ (fun i => ⟨[(21, some (vI i))], []⟩) (fun i => i ≤ m.length ∧ (∀ j, j < i → inU n (m.getD j default) = true)) (fun i => m.length - i) (0) (⟨Nat.zero_le _, bu⟩) ⟨⟨zy, trivial⟩, trivial⟩ ?_
    rintro i ⟨hi, hI⟩
    refine sx7 ?_; refine qy ?_; refine a6 ?_; refine a7 ?_; refine a8 _ rfl (fun r2 => ?_) (fun r2 => ?_)
    ·
     have h2 := of_decide_eq_true r2
     try simp only [ty] at h2
     refine aa ?_; refine a7 ?_; refine ae ?_; refine sx7 ?_; (iterate 2 refine qy ?_); refine m9 0 ?_; refine s9 ?_; refine a6 ?_; refine sx7 ?_; (iterate 8 refine qy ?_); refine a6 ?_
     refine a8 _ rfl (fun r3 => ?_) (fun r3 => ?_)
     ·
      have h3 := r3
      have h3 := of_decide_eq_false (ax h3)
      try simp only [ty] at h3
      refine sx7 ?_; refine qy ?_; refine a6 ?_
      exact hx8 rfl rfl rfl (⟨cci (abh (i := i) hv0 (by omega) (by omega) (fun e => absurd (a20.2 e) (by assumption))), trivial⟩)
     ·
      have h3 := r3
      have h3 := of_decide_eq_true (aw h3)
      try simp only [ty] at h3
      refine aa ?_; refine gy ?_; (iterate 2 refine qy ?_); refine a6 ?_; refine ⟨i + 1, ?_, ?_, ?_⟩
      · exact ⟨by show i + 1 ≤ _; omega, bf hI (a20.1 (by assumption))⟩
      · first | omega | (dsimp only; omega)
      · exact ⟨⟨zy, c9, c9, c9, trivial⟩, trivial⟩
    ·
     have h2 := of_decide_eq_false r2
     try simp only [ty] at h2
     refine ak ?_; refine ⟨(), ?_, ?_⟩
     · exact fun j hj => hI j (by omega)
     · exact ⟨trivial, trivial⟩
   · rintro _ hj
     refine sx7 ?_; refine qy ?_; refine a6 ?_
     exact hx8 rfl rfl rfl (⟨cci (aaq hv0 (by omega) hj), trivial⟩)
theorem a1m : goodFn Tryz.prog 104 := ⟨Tryz.f104, Tryz.func104, by kernel_rfl, by kernel_rfl⟩
theorem y6 (n : Int) (l m : List Fd) : ah Tryz.prog 104 [pI n, pP (fdl l), pP (fdl m)] (ap [pI (cu n l m)]) := by
 refine ag (nt := 42) af Tryz.func104 rfl rfl l9 ?_; refine a7 ?_
 refine d1 2 rfl fun hn2 => ?_
 refine gy ?_; refine qy ?_; refine a6 ?_; refine a7 ?_; refine sx7 ?_; (iterate 2 refine qy ?_); refine rc rfl rfl rfl rfl rfl rfl an7 (af0 n l) (CoL.refl _) rfl rfl ?_; refine qy ?_; refine a6 ?_; refine sx7 ?_
 (iterate 2 refine qy ?_); refine a6 ?_; refine a8 _ rfl (fun r0 => ?_) (fun r0 => ?_)
 ·
  have h0 := r0
  have h0 := of_decide_eq_false (ax h0)
  try simp only [ty] at h0
  refine sx7 ?_; (iterate 2 refine qy ?_); refine a6 ?_
  exact hx8 rfl rfl rfl (⟨cci (ajg (by assumption)), trivial⟩)
 ·
  have h0 := r0
  have h0 := of_decide_eq_true (aw h0)
  try simp only [ty] at h0
  have hv0 : av n l = 0 := by assumption
  obtain ⟨hn0, hn16, _, _⟩ := cr hv0
  refine aa ?_; refine a7 ?_; refine sx7 ?_; (iterate 3 refine qy ?_); refine a6 ?_; refine a8 _ rfl (fun r1 => ?_) (fun r1 => ?_)
  ·
   have h1 := of_decide_eq_true r1
   try simp only [ty] at h1
   refine sx7 ?_; refine qy ?_; refine a6 ?_
   exact hx8 rfl rfl rfl (⟨cci (aj5 hv0 (by omega)), trivial⟩)
  ·
   have h1 := of_decide_eq_false r1
   try simp only [ty] at h1
   refine aa ?_; refine dg (ι := Unit) ⟨[], []⟩ ⟨trivial, trivial⟩ (fun _i => ⟨[], []⟩) (fun _i => ∀ j, j < m.length → inU n (m.getD j default) = true) ?_ ?_
   ·
    refine sx7 ?_; refine qy ?_; refine a6 ?_; refine ae ?_
    refine ai (ι := Nat) ⟨[(0, some _), (2, some _)], []⟩ ⟨⟨c9, c9, trivial⟩, trivial⟩ (fun i => ⟨[(8, some (vI i))], []⟩) (fun i => i ≤ m.length ∧ (∀ j, j < i → inU n (m.getD j default) = true)) (fun i => m.length - i) (0) (⟨Nat.zero_le _, bu⟩) ⟨⟨zy, trivial⟩, trivial⟩ ?_
    rintro i ⟨hi, hI⟩
    refine a7 ?_; refine sx7 ?_; (iterate 4 refine qy ?_); refine a6 ?_; refine a8 _ rfl (fun r2 => ?_) (fun r2 => ?_)
    ·
     have h2 := of_decide_eq_true r2
     try simp only [ty] at h2
     refine aa ?_; refine a7 ?_; refine ae ?_; refine sx7 ?_; (iterate 6 refine qy ?_); refine rc rfl rfl rfl rfl rfl rfl afw (afg n _) (CoL.refl _) rfl rfl ?_; (iterate 2 refine qy ?_)
     refine bc rfl rfl (fun r3 => ?_) (fun r3 => ?_)
     ·
      have h3 := r3
      have h3 := ax h3
      (iterate 8 refine k9 (gtf r3) ?_); refine rq rfl rfl rfl rfl rfl ?_ (hp := r3); refine a6 ?_; refine a8 _ rfl (fun _ => ?_) (fun e => by cases e); refine sx7 ?_; refine qy ?_; refine a6 ?_
      exact hx8 rfl rfl rfl (⟨cci (abh (i := i) hv0 (by omega) (by omega) (fun e => by rw [l4 (by omega) (by omega)] at e; simp_all)), trivial⟩)
     ·
      have h3 := r3
      have h3 := aw h3
      (iterate 6 refine qy ?_ (hg := (gff r3))); refine rc rfl rfl rfl rfl rfl rfl afw (afg n _) (CoL.refl _) rfl (gff r3) ?_; refine qy ?_ (hg := (gff r3)); refine qy ?_; refine a6 ?_
      refine a8 _ rfl (fun r4 => ?_) (fun r4 => ?_)
      ·
       have h4 := r4
       have h4 := bn r3 h4
       have h4 := ax h4
       refine sx7 ?_; refine qy ?_; refine a6 ?_
       exact hx8 rfl rfl rfl (⟨cci (abh (i := i) hv0 (by omega) (by omega) (fun e => by rw [l4 (by omega) (by omega)] at e; simp_all)), trivial⟩)
      ·
       have h4 := r4
       have h4 := bn r3 h4
       have h4 := aw h4
       refine aa ?_; refine gy ?_; (iterate 3 refine qy ?_); refine a6 ?_; refine ⟨i + 1, ?_, ?_, ?_⟩
       · exact ⟨by show i + 1 ≤ _; omega, bf hI ((l4 (by omega) (by omega)).2 (by simp_all))⟩
       · first | omega | (dsimp only; omega)
       · exact ⟨⟨zy, c9, c9, trivial⟩, trivial⟩
    ·
     have h2 := of_decide_eq_false r2
     try simp only [ty] at h2
     refine ak ?_; refine ⟨(), ?_, ?_⟩
     · exact fun j hj => hI j (by omega)
     · exact ⟨trivial, trivial⟩
   · rintro _ hj
     refine sx7 ?_; refine qy ?_; refine a6 ?_
     exact hx8 rfl rfl rfl (⟨cci (aaq hv0 (by omega) hj), trivial⟩)
end Go.Hx
end
