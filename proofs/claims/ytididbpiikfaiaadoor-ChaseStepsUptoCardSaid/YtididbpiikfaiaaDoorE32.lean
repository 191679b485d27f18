/- A part of the proof: lemmas for the theorem of this claim, merged by a program of ours out of RdY, Ch17, X20, Ch18, X21, X22, X23, Ch19. -/
import Derived.Test.YtididbpiikfaiaaDoorE28
import Derived.Test.YtididbpiikfaiaaDoorE31
set_option linter.all false
section
namespace Go.Hx
open Go.Proofs Go.ChangeShapes Go.WideShapes Go.ChangeAt Go.RowKit
abbrev tabC (a : Int × List Rw) : Nat → PV := fun j => [.raw (.int .i64 a.1), rl a.2].getD j .any
theorem rd24 : Rd Tryd.prog 24 2 tabC := by
  intro H enc w sp held fuel cs x h
  obtain ⟨hl, n, hf⟩ := rd_fields Tryd.underlying24 h
  obtain ⟨y0, e0⟩ := hf 0 _ rfl
  obtain ⟨y1, e1⟩ := hf 1 _ rfl
  obtain ⟨a0, h0⟩ := rd_field rd3 e0
  obtain ⟨a1, h1⟩ := rd_field rd22 e1
  refine ⟨hl.trans (by kernel_rfl), ((a0, a1) : Int × List Rw), fun j hj => ?_⟩
  match j, hj with
  | 0, _ => exact h0 0 (by omega)
  | 1, _ => exact h1 0 (by omega)
end Go.Hx
end
section
namespace Go.Hx
theorem co_cpy {r : Rw} {g f : Nat → Nat → PV} (hf : ∀ i j, f i j = lf zC r i j) : CoP (.sl (0 + r.length) 1 false (appF 0 g f)) (zl r) :=
  CoP.sl (Nat.zero_add _).symm (.inl rfl) (fun h => h) fun i j hi hj => CoP.of_eq (by simp [appF, hf])
theorem co_absorb2 {l : List Rw} {i k : Nat} {g f : Nat → Nat → PV} {e et : TypeId} (hk : k = (l.getD i default).length) (hf : ∀ a b, f a b = lf zC (l.getD i default) a b) :
    CoO (.nest e et 1 (i + 1) (takeM (nM l) i k) (takeG (mg (matOf l)) i (appF 0 g f)) none) (.nest e et 1 (i + 1) (nM l) (mg (matOf l)) none) := by
  have e : appF 0 g f = lf zC (l.getD i default) := by funext a b; simp [appF, hf]
  rw [e]
  exact co_absorb hk rfl
end Go.Hx
end
section
namespace Go.Hx
open Go.Proofs
set_option maxRecDepth 100000
theorem good52 : goodFn Tryd.prog 52 := ⟨Tryd.f52, Tryd.func52, by kernel_rfl, by kernel_rfl⟩
theorem cRCopied (l : List Rw) (hl : ∀ i, i < l.length → (l.getD i default).length ≤ 17592186044416) (hl2 : l.length ≤ 5864062014805) : HFun Tryd.prog 52 [.one (.p (rl l))] [] (.v (.one (.ref 901 l.length))) [(901, .arr true 1 25 l.length (lf rC l))] [] := by
  refine hfun_of (nt := 21) Trydok Tryd.func52 rfl rfl (Nat.le_of_ble_eq_true rfl) rfl ?_; refine hw_seq ?_
  refine hw_bt 0 rfl fun hn => ?_
  refine hw_region (E := TrydE) Trydok ?_; refine rq rfl rfl rfl rfl rfl ?_; refine rg_nil ?_; show HW _ _ _ _ _; refine hw_seq ?_; refine hw_region (E := TrydE) Trydok ?_; refine rq rfl rfl rfl rfl rfl ?_; refine rg_nil ?_
  refine hw_adopt 3 901 true 1 25 (lf rC l) (by decide) rfl (CoP.sl rfl (.inr rfl) (fun h => h) (fun i j hi _ => absurd hi (Nat.not_lt_zero i))) (.inr rfl) rfl ?_; show HW _ _ _ _ _; (iterate 2 refine hw_seq ?_)
  refine hw_region (E := TrydE) Trydok ?_; refine rq rfl rfl rfl rfl rfl ?_; refine rg_nil ?_; show HW _ _ _ _ _; refine hw_block ?_
  refine hw_loopK (ι := Nat) ⟨[(0, some _)], []⟩ ⟨⟨⟨_, rfl, CoR.refl _⟩, trivial⟩, trivial⟩ (fun i => ⟨[(3, some (.v (.one (.ref 901 i)))), (4, some (vI i))], [(901, some (.arr true 1 25 i (lf rC l)))]⟩) (fun i => i ≤ l.length) (fun i => l.length - i) (0) (Nat.zero_le _) ⟨⟨⟨_, rfl, (by first | exact CoR.refl _ | exact coi (by omega) | exact cob (by simp_all))⟩, ⟨_, rfl, (by first | exact CoR.refl _ | exact coi (by omega) | exact cob (by simp_all))⟩, trivial⟩, ⟨⟨_, rfl, CoO.refl _⟩, trivial⟩⟩ ?_
  rintro i hi
  (iterate 2 refine hw_seq ?_); refine hw_region (E := TrydE) Trydok ?_; (iterate 4 refine rq rfl rfl rfl rfl rfl ?_); refine rg_nil ?_; show HW _ _ _ _ _; refine hw_cond _ rfl (fun r0 => ?_) (fun r0 => ?_)
  · skip
    have h0 := r0
    have h0 := of_decide_eq_true h0
    try simp only [Int.toNat_natCast] at h0
    have hli := hl i (by omega)
    refine hw_skip ?_; show HW _ _ _ _ _; refine hw_seq ?_; refine hw_block ?_; refine hw_regionN [0, 1, 2, 3, 4, 5, 6] [7, 8, 9] rfl ?_; refine rn_reg (E := TrydE) Trydok ?_; refine rq rfl rfl rfl rfl rfl ?_
    refine rm 0 rfl rfl rfl rfl rfl rfl ?_; (iterate 4 refine rq rfl rfl rfl rfl rfl ?_); refine ra 1 true rfl rfl rfl rfl rfl rfl ?_; refine rg_nil ?_; refine rn_he ?_; refine he_freeze 17 rfl rfl rfl ?_; refine he_done ?_
    refine rn_reg (E := TrydE) (L1 := [7, 8, 9]) (L2 := []) Trydok ?_; refine rm 2 rfl rfl rfl rfl rfl rfl ?_; refine ra 3 true rfl rfl rfl rfl rfl rfl ?_; refine rq rfl rfl rfl rfl rfl ?_; refine rg_nil ?_; refine rn_nil ?_
    show HW _ _ _ _ _; refine hw_region (E := TrydE) Trydok ?_; (iterate 3 refine rq rfl rfl rfl rfl rfl ?_); refine rg_nil ?_; refine ⟨i + 1, ?_, ?_, ?_⟩
    · show i + 1 ≤ _; omega
    · first | omega | (dsimp only; omega)
    · exact ⟨⟨⟨_, rfl, (by first | exact CoR.refl _ | exact coi (by omega) | exact cob (by simp_all))⟩, ⟨_, rfl, (by first | exact CoR.refl _ | exact coi (by omega) | exact cob (by simp_all))⟩, ⟨_, rfl, CoR.refl _⟩, trivial⟩, ⟨⟨_, rfl, (co_push (fun h => h) (fun j hj => by obtain rfl : j = 0 := (by omega); exact co_cpy (fun _ _ => rfl)))⟩, trivial⟩⟩
  · skip
    have h0 := r0
    have h0 := of_decide_eq_false h0
    try simp only [Int.toNat_natCast] at h0
    obtain rfl : i = l.length := by omega
    refine hw_exit ?_; show HW _ _ _ _ _; refine hw_seq ?_; refine hw_region (E := TrydE) Trydok ?_; (iterate 2 refine rq rfl rfl rfl rfl rfl ?_); refine rg_nil ?_; show HW _ _ _ _ _; refine hw_ret ?_; refine ⟨.inr rfl, ?_⟩
    exact ⟨_, _, rfl, (by (repeat' apply And.intro) <;> first | trivial | exact Nat.le_of_ble_eq_true rfl), CoR.refl _, ⟨⟨_, rfl, CoO.refl _⟩, trivial⟩⟩
theorem cRCopiedN (l : List Rw) (hl : ∀ i, i < l.length → (l.getD i default).length ≤ 17592186044416) (hl2 : l.length ≤ 5864062014805) : HFun Tryd.prog 52 [.one (.p (rl l))] [] (.v (.one (.ref 901 l.length))) [(901, .nest 25 3 1 l.length (nM l) (mg (matOf l)) none)] [] := by
  refine hfun_of (nt := 21) Trydok Tryd.func52 rfl rfl (Nat.le_of_ble_eq_true rfl) rfl ?_; refine hw_seq ?_
  refine hw_bt 0 rfl fun hn => ?_
  refine hw_region (E := TrydE) Trydok ?_; refine rq rfl rfl rfl rfl rfl ?_; refine rg_nil ?_; show HW _ _ _ _ _; refine hw_seq ?_; refine hw_region (E := TrydE) Trydok ?_; refine rq rfl rfl rfl rfl rfl ?_; refine rg_nil ?_
  refine hw_adoptN 3 901 25 3 1 (nM l) (mg (matOf l)) (by decide) rfl rfl ?_; show HW _ _ _ _ _; (iterate 2 refine hw_seq ?_); refine hw_region (E := TrydE) Trydok ?_; refine rq rfl rfl rfl rfl rfl ?_; refine rg_nil ?_
  show HW _ _ _ _ _; refine hw_block ?_
  refine hw_loopK (ι := Nat) ⟨[(0, some _)], []⟩ ⟨⟨⟨_, rfl, CoR.refl _⟩, trivial⟩, trivial⟩ (fun i => ⟨[(3, some (.v (.one (.ref 901 i)))), (4, some (vI i))], [(901, some (.nest 25 3 1 i (nM l) (mg (matOf l)) none))]⟩) (fun i => i ≤ l.length) (fun i => l.length - i) (0) (Nat.zero_le _) ⟨⟨⟨_, rfl, (by first | exact CoR.refl _ | exact coi (by omega) | exact cob (by simp_all))⟩, ⟨_, rfl, (by first | exact CoR.refl _ | exact coi (by omega) | exact cob (by simp_all))⟩, trivial⟩, ⟨⟨_, rfl, CoO.refl _⟩, trivial⟩⟩ ?_
  rintro i hi
  (iterate 2 refine hw_seq ?_); refine hw_region (E := TrydE) Trydok ?_; (iterate 4 refine rq rfl rfl rfl rfl rfl ?_); refine rg_nil ?_; show HW _ _ _ _ _; refine hw_cond _ rfl (fun r0 => ?_) (fun r0 => ?_)
  · skip
    have h0 := r0
    have h0 := of_decide_eq_true h0
    try simp only [Int.toNat_natCast] at h0
    have hli := hl i (by omega)
    refine hw_skip ?_; show HW _ _ _ _ _; refine hw_seq ?_; refine hw_block ?_; refine hw_region (E := TrydE) Trydok ?_; refine rq rfl rfl rfl rfl rfl ?_; refine rm 0 rfl rfl rfl rfl rfl rfl ?_
    (iterate 4 refine rq rfl rfl rfl rfl rfl ?_); refine ra 1 true rfl rfl rfl rfl rfl rfl ?_; refine rm 2 rfl rfl rfl rfl rfl rfl ?_; refine ra 3 true rfl rfl rfl rfl rfl rfl ?_; refine rq rfl rfl rfl rfl rfl ?_; refine rg_nil ?_
    refine hw_absorb 901 0 rfl rfl ?_; show HW _ _ _ _ _; refine hw_region (E := TrydE) Trydok ?_; (iterate 3 refine rq rfl rfl rfl rfl rfl ?_); refine rg_nil ?_; refine ⟨i + 1, ?_, ?_, ?_⟩
    · show i + 1 ≤ _; omega
    · first | omega | (dsimp only; omega)
    · exact ⟨⟨⟨_, rfl, (by first | exact CoR.refl _ | exact coi (by omega) | exact cob (by simp_all))⟩, ⟨_, rfl, (by first | exact CoR.refl _ | exact coi (by omega) | exact cob (by simp_all))⟩, ⟨_, rfl, CoR.refl _⟩, trivial⟩, ⟨⟨_, rfl, (co_absorb2 (Nat.zero_add _) (fun _ _ => rfl))⟩, trivial⟩⟩
  · skip
    have h0 := r0
    have h0 := of_decide_eq_false h0
    try simp only [Int.toNat_natCast] at h0
    obtain rfl : i = l.length := by omega
    refine hw_exit ?_; show HW _ _ _ _ _; refine hw_seq ?_; refine hw_region (E := TrydE) Trydok ?_; (iterate 2 refine rq rfl rfl rfl rfl rfl ?_); refine rg_nil ?_; show HW _ _ _ _ _; refine hw_ret ?_; refine ⟨.inr rfl, ?_⟩
    exact ⟨_, _, rfl, (by (repeat' apply And.intro) <;> first | trivial | exact Nat.le_of_ble_eq_true rfl), CoR.refl _, ⟨⟨_, rfl, CoO.refl _⟩, trivial⟩⟩
end Go.Hx
end
section
namespace Go.Hx
theorem membT_all {s : AS} {n : Nat} (hn : n ≤ 32) (h : ∀ j, j ∈ membs s → j < n) : membT s n = membs s := by
  have h2 : ∀ d, n + d ≤ 32 → membT s (n + d) = membT s n := by
    intro d
    induction d with
    | zero => intro _; rfl
    | succ d ih =>
      intro hd
      have hf : hasI s ((n + d : Nat) : Int) = false := by
        rw [hasI_nat (by omega), Bool.eq_false_iff]
        intro e
        have := h _ (mem_membs.2 ⟨by omega, e⟩)
        omega
      rw [← ih (by omega)]
      exact membT_f (i := n + d) (show n + d < 32 by omega) hf
  have := h2 (32 - n) (by omega)
  rw [← this, show n + (32 - n) = 32 by omega]
  rfl
theorem eqMs_snoc {M : Nat → Nat → Int} {a b j : Nat} {js : List Nat} : eqMs M a b (js ++ [j]) = eqM (eqMs M a b js) a b j := by
  unfold eqMs
  rw [List.foldl_append]
  rfl
theorem co_thinP {l : List Rw} {M : Nat → Nat → Int} {n : Nat} (hn : n = l.length) : CoP (.sl n 1 false (thinF 1 (nM l) (mg M))) (rl (rowsOf l M)) := by
  obtain ⟨_, _, _, h1, h2⟩ := co_thin (l := l) (M := M) (e := 25) hn
  exact CoP.sl h1 (.inl rfl) (fun h => h) h2
end Go.Hx
end
section
namespace Go.Hx
open Go.Proofs
set_option maxRecDepth 100000
theorem good59 : goodFn Tryd.prog 59 := ⟨Tryd.f59, Tryd.func59, by kernel_rfl, by kernel_rfl⟩
theorem cREquate (n : Int) (l : List Rw) (s : AS) (a b : Nat) (h0 : 0 ≤ n) (h1 : n ≤ 16) (hrow : ∀ i, i < l.length → (l.getD i default).length = n.toNat) (hl2 : l.length ≤ 4294967296) (ha : a < l.length) (hb : b < l.length) (hs : ∀ j, j ∈ membs s → j < n.toNat) : HPure Tryd.prog 59 [pT n l, pA s, pI (a : Int), pI (b : Int)] (prOf [pT n (canon (rowsOf l (eqMs (matOf l) a b (membs s))))]) := by
  refine hpure_of (nt := 88) Trydok Tryd.func59 rfl rfl (Nat.le_of_ble_eq_true rfl) ?_; refine hw_seq ?_; refine hw_region (E := TrydE) Trydok ?_; refine rm 0 rfl rfl rfl rfl rfl rfl ?_; refine rm 1 rfl rfl rfl rfl rfl rfl ?_
  refine rg_nil ?_; show HW _ _ _ _ _; refine hw_seq ?_; refine hw_region (E := TrydE) Trydok ?_; (iterate 2 refine rq rfl rfl rfl rfl rfl ?_)
  refine rg_fcall rfl rfl rfl rfl rfl rfl good52 (cRCopiedN l (fun i hi => by rw [hrow i hi]; omega) (by omega)) (CoHCL.refl _) trivial rfl rfl ?_; refine rq rfl rfl rfl rfl rfl ?_; refine rg_nil ?_; show HW _ _ _ _ _
  (iterate 2 refine hw_seq ?_); refine hw_region (E := TrydE) Trydok ?_; refine rq rfl rfl rfl rfl rfl ?_; refine rg_nil ?_; show HW _ _ _ _ _; refine hw_block ?_
  refine hw_loopK (ι := Nat) ⟨[(1, some _), (2, some _), (3, some _), (4, some _), (8, some _), (9, some _)], [(0, some _), (1, some _)]⟩ ⟨⟨⟨_, rfl, CoR.refl _⟩, ⟨_, rfl, CoR.refl _⟩, ⟨_, rfl, CoR.refl _⟩, ⟨_, rfl, CoR.refl _⟩, ⟨_, rfl, CoR.refl _⟩, ⟨_, rfl, CoR.refl _⟩, trivial⟩, ⟨⟨_, rfl, CoO.refl _⟩, ⟨_, rfl, CoO.refl _⟩, trivial⟩⟩ (fun j => ⟨[(10, some (vI j))], [(901, some (.nest 25 3 1 l.length (fun i => (l.getD i default).length) (mg (eqMs (matOf l) a b (membT s j))) none))]⟩) (fun j => j ≤ n.toNat) (fun j => n.toNat - j) (0) (Nat.zero_le _) ⟨⟨⟨_, rfl, (by first | exact CoR.refl _ | exact coi (by omega) | exact cob (by simp_all))⟩, trivial⟩, ⟨⟨_, rfl, CoO.refl _⟩, trivial⟩⟩ ?_
  rintro j hj
  (iterate 2 refine hw_seq ?_)
  have hra := hrow a ha
  have hrb := hrow b hb
  refine hw_region (E := TrydE) Trydok ?_; (iterate 4 refine rq rfl rfl rfl rfl rfl ?_); refine rg_nil ?_; show HW _ _ _ _ _; refine hw_cond _ rfl (fun r0 => ?_) (fun r0 => ?_)
  · skip
    have h0 := r0
    have h0 := of_decide_eq_true h0
    try simp only [Int.toNat_natCast] at h0
    refine hw_skip ?_; show HW _ _ _ _ _; refine hw_seq ?_; refine hw_block ?_; refine hw_seq ?_; refine hw_draw (E := TrydE) Trydok Trydmixed [0, 1, 2, 3, 4, 5, 6, 7, 8, 9, 10, 11, 12, 13, 14, 15] ?_
    (iterate 5 refine rq rfl rfl rfl rfl rfl ?_)
    (iterate 2 refine rq rfl rfl rfl rfl rfl ?_ (hp := (by (try simp only [Int.toNat_natCast, nM]); (repeat' apply And.intro) <;> first | trivial | rfl | omega | exact Nat.le_of_ble_eq_true rfl)))
    (iterate 5 refine rq rfl rfl rfl rfl rfl ?_)
    (iterate 2 refine rq rfl rfl rfl rfl rfl ?_ (hp := (by (try simp only [Int.toNat_natCast, nM]); (repeat' apply And.intro) <;> first | trivial | rfl | omega | exact Nat.le_of_ble_eq_true rfl)))
    (iterate 2 refine rq rfl rfl rfl rfl rfl ?_); refine rg_nil ?_; refine ⟨by kernel_rfl, ?_⟩; show HW _ _ _ _ _; (iterate 2 refine hw_seq ?_); refine hw_region (E := TrydE) Trydok ?_; (iterate 2 refine rq rfl rfl rfl rfl rfl ?_)
    refine rc rfl rfl rfl rfl rfl rfl good45 (cHas s (j : Int)) (CoL.refl _) rfl rfl ?_; (iterate 2 refine rq rfl rfl rfl rfl rfl ?_); refine rsplit rfl rfl (fun r1 => ?_) (fun r1 => ?_)
    · skip
      have h1 := r1
      have h1 := not_t h1
      (iterate 3 refine rk rfl rfl rfl (gtf r1) ?_); refine rq rfl rfl rfl rfl rfl ?_ (hp := r1); refine rg_nil ?_; show HW _ _ _ _ _; refine hw_cond _ rfl (fun _ => ?_) (fun e => by cases e); refine hw_exit ?_; show HW _ _ _ _ _
      refine hw_region (E := TrydE) Trydok ?_; (iterate 3 refine rq rfl rfl rfl rfl rfl ?_); refine rg_nil ?_; refine ⟨j + 1, ?_, ?_, ?_⟩
      · show j + 1 ≤ _; omega
      · first | omega | (dsimp only; omega)
      · exact ⟨⟨⟨_, rfl, (by first | exact CoR.refl _ | exact coi (by omega) | exact cob (by simp_all))⟩, ⟨_, rfl, CoR.refl _⟩, ⟨_, rfl, CoR.refl _⟩, ⟨_, rfl, CoR.refl _⟩, ⟨_, rfl, CoR.refl _⟩, ⟨_, rfl, CoR.refl _⟩, ⟨_, rfl, CoR.refl _⟩, trivial⟩, ⟨⟨_, rfl, (by first | (rw [membT_f (by omega) (by assumption)]; exact CoO.refl _) | (rw [membT_t (by omega) (by assumption), eqMs_snoc, eqM_same (by assumption)]; exact CoO.refl _) | (rw [membT_t (by omega) (by assumption), eqMs_snoc]; exact co_nsame (repM_end (by omega))))⟩, ⟨_, rfl, CoO.refl _⟩, ⟨_, rfl, CoO.refl _⟩, trivial⟩⟩
    · skip
      have h1 := r1
      have h1 := not_f h1
      (iterate 3 refine rq rfl rfl rfl rfl (gff r1) ?_); refine rq rfl rfl rfl rfl rfl ?_; refine rg_nil ?_; show HW _ _ _ _ _; refine hw_cond _ rfl (fun r2 => ?_) (fun r2 => ?_)
      · skip
        have h2 := r2
        have h2 := bif_f r1 h2
        have h2 := of_decide_eq_true h2
        try simp only [Int.toNat_natCast] at h2
        refine hw_exit ?_; show HW _ _ _ _ _; refine hw_region (E := TrydE) Trydok ?_; (iterate 3 refine rq rfl rfl rfl rfl rfl ?_); refine rg_nil ?_; refine ⟨j + 1, ?_, ?_, ?_⟩
        · show j + 1 ≤ _; omega
        · first | omega | (dsimp only; omega)
        · exact ⟨⟨⟨_, rfl, (by first | exact CoR.refl _ | exact coi (by omega) | exact cob (by simp_all))⟩, ⟨_, rfl, CoR.refl _⟩, ⟨_, rfl, CoR.refl _⟩, ⟨_, rfl, CoR.refl _⟩, ⟨_, rfl, CoR.refl _⟩, ⟨_, rfl, CoR.refl _⟩, ⟨_, rfl, CoR.refl _⟩, trivial⟩, ⟨⟨_, rfl, (by first | (rw [membT_f (by omega) (by assumption)]; exact CoO.refl _) | (rw [membT_t (by omega) (by assumption), eqMs_snoc, eqM_same (by assumption)]; exact CoO.refl _) | (rw [membT_t (by omega) (by assumption), eqMs_snoc]; exact co_nsame (repM_end (by omega))))⟩, ⟨_, rfl, CoO.refl _⟩, ⟨_, rfl, CoO.refl _⟩, trivial⟩⟩
      · skip
        have h2 := r2
        have h2 := bif_f r1 h2
        have h2 := of_decide_eq_false h2
        try simp only [Int.toNat_natCast] at h2
        refine hw_skip ?_; show HW _ _ _ _ _; refine hw_seq ?_; refine hw_region (E := TrydE) Trydok ?_; (iterate 4 refine rq rfl rfl rfl rfl rfl ?_); refine rg_nil ?_; show HW _ _ _ _ _
        refine hw_joinK (ι := Unit) ⟨[(1, some _), (2, some _), (3, some _), (4, some _), (8, some _), (9, some _), (10, some _)], [(0, some _), (1, some _)]⟩ ⟨⟨⟨_, rfl, CoR.refl _⟩, ⟨_, rfl, CoR.refl _⟩, ⟨_, rfl, CoR.refl _⟩, ⟨_, rfl, CoR.refl _⟩, ⟨_, rfl, CoR.refl _⟩, ⟨_, rfl, CoR.refl _⟩, ⟨_, rfl, CoR.refl _⟩, trivial⟩, ⟨⟨_, rfl, CoO.refl _⟩, ⟨_, rfl, CoO.refl _⟩, trivial⟩⟩ (fun _i => ⟨[(13, some (vI (loI ((eqMs (matOf l) a b (membT s j)) a j) ((eqMs (matOf l) a b (membT s j)) b j)))), (14, some (vI (hiI ((eqMs (matOf l) a b (membT s j)) a j) ((eqMs (matOf l) a b (membT s j)) b j))))], [(901, some (.nest 25 3 1 l.length (fun i => (l.getD i default).length) (mg (eqMs (matOf l) a b (membT s j))) none))]⟩) (fun _i => True) ?_ ?_
        · skip
          refine hw_seq ?_; refine hw_region (E := TrydE) Trydok ?_; (iterate 3 refine rq rfl rfl rfl rfl rfl ?_); refine rg_nil ?_; show HW _ _ _ _ _; refine hw_cond _ rfl (fun r3 => ?_) (fun r3 => ?_)
          · skip
            have h3 := r3
            have h3 := of_decide_eq_true h3
            try simp only [Int.toNat_natCast] at h3
            refine hw_region (E := TrydE) Trydok ?_; (iterate 4 refine rq rfl rfl rfl rfl rfl ?_); refine rg_nil ?_; refine ⟨(), ?_, ?_⟩
            · trivial
            · exact ⟨⟨⟨_, rfl, (cor_i (by simp only [Int.toNat_natCast]; unfold loI; split <;> omega))⟩, ⟨_, rfl, (cor_i (by simp only [Int.toNat_natCast]; unfold hiI; split <;> omega))⟩, ⟨_, rfl, CoR.refl _⟩, ⟨_, rfl, CoR.refl _⟩, ⟨_, rfl, CoR.refl _⟩, ⟨_, rfl, CoR.refl _⟩, ⟨_, rfl, CoR.refl _⟩, ⟨_, rfl, CoR.refl _⟩, ⟨_, rfl, CoR.refl _⟩, trivial⟩, ⟨⟨_, rfl, CoO.refl _⟩, ⟨_, rfl, CoO.refl _⟩, ⟨_, rfl, CoO.refl _⟩, trivial⟩⟩
          · skip
            have h3 := r3
            have h3 := of_decide_eq_false h3
            try simp only [Int.toNat_natCast] at h3
            refine hw_skip ?_; refine ⟨(), ?_, ?_⟩
            · trivial
            · exact ⟨⟨⟨_, rfl, (cor_i (by simp only [Int.toNat_natCast]; unfold loI; split <;> omega))⟩, ⟨_, rfl, (cor_i (by simp only [Int.toNat_natCast]; unfold hiI; split <;> omega))⟩, ⟨_, rfl, CoR.refl _⟩, ⟨_, rfl, CoR.refl _⟩, ⟨_, rfl, CoR.refl _⟩, ⟨_, rfl, CoR.refl _⟩, ⟨_, rfl, CoR.refl _⟩, ⟨_, rfl, CoR.refl _⟩, ⟨_, rfl, CoR.refl _⟩, trivial⟩, ⟨⟨_, rfl, CoO.refl _⟩, ⟨_, rfl, CoO.refl _⟩, ⟨_, rfl, CoO.refl _⟩, trivial⟩⟩
        · rintro _ _
          refine hw_seq ?_; refine hw_region (E := TrydE) Trydok ?_; refine rq rfl rfl rfl rfl rfl ?_; refine rg_nil ?_; show HW _ _ _ _ _; refine hw_block ?_
          refine hw_loopK (ι := Nat) ⟨[(1, some _), (2, some _), (3, some _), (4, some _), (8, some _), (9, some _), (10, some _), (13, some _), (14, some _)], [(0, some _), (1, some _)]⟩ ⟨⟨⟨_, rfl, CoR.refl _⟩, ⟨_, rfl, CoR.refl _⟩, ⟨_, rfl, CoR.refl _⟩, ⟨_, rfl, CoR.refl _⟩, ⟨_, rfl, CoR.refl _⟩, ⟨_, rfl, CoR.refl _⟩, ⟨_, rfl, CoR.refl _⟩, ⟨_, rfl, CoR.refl _⟩, ⟨_, rfl, CoR.refl _⟩, trivial⟩, ⟨⟨_, rfl, CoO.refl _⟩, ⟨_, rfl, CoO.refl _⟩, trivial⟩⟩ (fun i => ⟨[(15, some (vI i))], [(901, some (.nest 25 3 1 l.length (fun i => (l.getD i default).length) (mg (repM (eqMs (matOf l) a b (membT s j)) (hiI ((eqMs (matOf l) a b (membT s j)) a j) ((eqMs (matOf l) a b (membT s j)) b j)) (loI ((eqMs (matOf l) a b (membT s j)) a j) ((eqMs (matOf l) a b (membT s j)) b j)) i 0)) none))]⟩) (fun i => i ≤ l.length) (fun i => l.length - i) (0) (Nat.zero_le _) ⟨⟨⟨_, rfl, (by first | exact CoR.refl _ | exact coi (by omega) | exact cob (by simp_all))⟩, trivial⟩, ⟨⟨_, rfl, (by rw [repM_zero]; exact CoO.refl _)⟩, trivial⟩⟩ ?_
          rintro i hi
          (iterate 2 refine hw_seq ?_); refine hw_region (E := TrydE) Trydok ?_; (iterate 4 refine rq rfl rfl rfl rfl rfl ?_); refine rg_nil ?_; show HW _ _ _ _ _; refine hw_cond _ rfl (fun r4 => ?_) (fun r4 => ?_)
          · skip
            have h4 := r4
            have h4 := of_decide_eq_true h4
            try simp only [Int.toNat_natCast] at h4
            have hri := hrow i (by omega)
            refine hw_skip ?_; show HW _ _ _ _ _; refine hw_seq ?_; refine hw_block ?_; refine hw_seq ?_; refine hw_region (E := TrydE) Trydok ?_; refine rq rfl rfl rfl rfl rfl ?_; refine rg_nil ?_; show HW _ _ _ _ _
            refine hw_block ?_
            refine hw_loopK (ι := Nat) ⟨[(1, some _), (2, some _), (3, some _), (4, some _), (8, some _), (9, some _), (10, some _), (13, some _), (14, some _), (15, some _)], [(0, some _), (1, some _)]⟩ ⟨⟨⟨_, rfl, CoR.refl _⟩, ⟨_, rfl, CoR.refl _⟩, ⟨_, rfl, CoR.refl _⟩, ⟨_, rfl, CoR.refl _⟩, ⟨_, rfl, CoR.refl _⟩, ⟨_, rfl, CoR.refl _⟩, ⟨_, rfl, CoR.refl _⟩, ⟨_, rfl, CoR.refl _⟩, ⟨_, rfl, CoR.refl _⟩, ⟨_, rfl, CoR.refl _⟩, trivial⟩, ⟨⟨_, rfl, CoO.refl _⟩, ⟨_, rfl, CoO.refl _⟩, trivial⟩⟩ (fun k => ⟨[(16, some (vI k))], [(901, some (.nest 25 3 1 l.length (fun i => (l.getD i default).length) (mg (repM (eqMs (matOf l) a b (membT s j)) (hiI ((eqMs (matOf l) a b (membT s j)) a j) ((eqMs (matOf l) a b (membT s j)) b j)) (loI ((eqMs (matOf l) a b (membT s j)) a j) ((eqMs (matOf l) a b (membT s j)) b j)) i k)) none))]⟩) (fun k => k ≤ n.toNat) (fun k => n.toNat - k) (0) (Nat.zero_le _) ⟨⟨⟨_, rfl, (by first | exact CoR.refl _ | exact coi (by omega) | exact cob (by simp_all))⟩, trivial⟩, ⟨⟨_, rfl, CoO.refl _⟩, trivial⟩⟩ ?_
            rintro k hk
            (iterate 2 refine hw_seq ?_); refine hw_region (E := TrydE) Trydok ?_; (iterate 4 refine rq rfl rfl rfl rfl rfl ?_); refine rg_nil ?_; show HW _ _ _ _ _; refine hw_cond _ rfl (fun r5 => ?_) (fun r5 => ?_)
            · skip
              have h5 := r5
              have h5 := of_decide_eq_true h5
              try simp only [Int.toNat_natCast] at h5
              refine hw_skip ?_; show HW _ _ _ _ _; refine hw_seq ?_; refine hw_block ?_; refine hw_seq ?_; refine hw_region (E := TrydE) Trydok ?_; (iterate 5 refine rq rfl rfl rfl rfl rfl ?_)
              (iterate 2 refine rq rfl rfl rfl rfl rfl ?_ (hp := (by (try simp only [Int.toNat_natCast, nM]); (repeat' apply And.intro) <;> first | trivial | rfl | omega | exact Nat.le_of_ble_eq_true rfl)))
              (iterate 2 refine rq rfl rfl rfl rfl rfl ?_); refine rg_nil ?_; show HW _ _ _ _ _; refine hw_cond _ rfl (fun r6 => ?_) (fun r6 => ?_)
              · skip
                have h6 := r6
                have h6 := of_decide_eq_true h6
                try simp only [Int.toNat_natCast] at h6
                refine hw_region (E := TrydE) Trydok ?_; (iterate 6 refine rq rfl rfl rfl rfl rfl ?_)
                refine rq rfl rfl rfl rfl rfl ?_ (hp := (by (try simp only [Int.toNat_natCast, nM]); (repeat' apply And.intro) <;> first | trivial | rfl | omega | exact Nat.le_of_ble_eq_true rfl))
                refine rs rfl rfl rfl rfl rfl ?_ (hp := (by (try simp only [Int.toNat_natCast, nM]); (repeat' apply And.intro) <;> first | trivial | rfl | omega | exact Nat.le_of_ble_eq_true rfl)); refine rg_nil ?_
                show HW _ _ _ _ _; refine hw_region (E := TrydE) Trydok ?_; (iterate 3 refine rq rfl rfl rfl rfl rfl ?_); refine rg_nil ?_; refine ⟨k + 1, ?_, ?_, ?_⟩
                · show k + 1 ≤ _; omega
                · first | omega | (dsimp only; omega)
                · exact ⟨⟨⟨_, rfl, (by first | exact CoR.refl _ | exact coi (by omega) | exact cob (by simp_all))⟩, ⟨_, rfl, CoR.refl _⟩, ⟨_, rfl, CoR.refl _⟩, ⟨_, rfl, CoR.refl _⟩, ⟨_, rfl, CoR.refl _⟩, ⟨_, rfl, CoR.refl _⟩, ⟨_, rfl, CoR.refl _⟩, ⟨_, rfl, CoR.refl _⟩, ⟨_, rfl, CoR.refl _⟩, ⟨_, rfl, CoR.refl _⟩, ⟨_, rfl, CoR.refl _⟩, trivial⟩, ⟨⟨_, rfl, (by first | exact co_nset (repM_t (by assumption)) (by simp) (by simp) | (rw [repM_f (by assumption)]; exact CoO.refl _))⟩, ⟨_, rfl, CoO.refl _⟩, ⟨_, rfl, CoO.refl _⟩, trivial⟩⟩
              · skip
                have h6 := r6
                have h6 := of_decide_eq_false h6
                try simp only [Int.toNat_natCast] at h6
                refine hw_skip ?_; show HW _ _ _ _ _; refine hw_region (E := TrydE) Trydok ?_; (iterate 3 refine rq rfl rfl rfl rfl rfl ?_); refine rg_nil ?_; refine ⟨k + 1, ?_, ?_, ?_⟩
                · show k + 1 ≤ _; omega
                · first | omega | (dsimp only; omega)
                · exact ⟨⟨⟨_, rfl, (by first | exact CoR.refl _ | exact coi (by omega) | exact cob (by simp_all))⟩, ⟨_, rfl, CoR.refl _⟩, ⟨_, rfl, CoR.refl _⟩, ⟨_, rfl, CoR.refl _⟩, ⟨_, rfl, CoR.refl _⟩, ⟨_, rfl, CoR.refl _⟩, ⟨_, rfl, CoR.refl _⟩, ⟨_, rfl, CoR.refl _⟩, ⟨_, rfl, CoR.refl _⟩, ⟨_, rfl, CoR.refl _⟩, ⟨_, rfl, CoR.refl _⟩, trivial⟩, ⟨⟨_, rfl, (by first | exact co_nset (repM_t (by assumption)) (by simp) (by simp) | (rw [repM_f (by assumption)]; exact CoO.refl _))⟩, ⟨_, rfl, CoO.refl _⟩, ⟨_, rfl, CoO.refl _⟩, trivial⟩⟩
            · skip
              have h5 := r5
              have h5 := of_decide_eq_false h5
              try simp only [Int.toNat_natCast] at h5
              refine hw_exit ?_; show HW _ _ _ _ _; refine hw_region (E := TrydE) Trydok ?_; (iterate 3 refine rq rfl rfl rfl rfl rfl ?_); refine rg_nil ?_; refine ⟨i + 1, ?_, ?_, ?_⟩
              · show i + 1 ≤ _; omega
              · first | omega | (dsimp only; omega)
              · exact ⟨⟨⟨_, rfl, (by first | exact CoR.refl _ | exact coi (by omega) | exact cob (by simp_all))⟩, ⟨_, rfl, CoR.refl _⟩, ⟨_, rfl, CoR.refl _⟩, ⟨_, rfl, CoR.refl _⟩, ⟨_, rfl, CoR.refl _⟩, ⟨_, rfl, CoR.refl _⟩, ⟨_, rfl, CoR.refl _⟩, ⟨_, rfl, CoR.refl _⟩, ⟨_, rfl, CoR.refl _⟩, ⟨_, rfl, CoR.refl _⟩, trivial⟩, ⟨⟨_, rfl, (co_nsame (repM_row (by omega)))⟩, ⟨_, rfl, CoO.refl _⟩, ⟨_, rfl, CoO.refl _⟩, trivial⟩⟩
          · skip
            have h4 := r4
            have h4 := of_decide_eq_false h4
            try simp only [Int.toNat_natCast] at h4
            refine hw_exit ?_; show HW _ _ _ _ _; refine hw_region (E := TrydE) Trydok ?_; (iterate 3 refine rq rfl rfl rfl rfl rfl ?_); refine rg_nil ?_; refine ⟨j + 1, ?_, ?_, ?_⟩
            · show j + 1 ≤ _; omega
            · first | omega | (dsimp only; omega)
            · exact ⟨⟨⟨_, rfl, (by first | exact CoR.refl _ | exact coi (by omega) | exact cob (by simp_all))⟩, ⟨_, rfl, CoR.refl _⟩, ⟨_, rfl, CoR.refl _⟩, ⟨_, rfl, CoR.refl _⟩, ⟨_, rfl, CoR.refl _⟩, ⟨_, rfl, CoR.refl _⟩, ⟨_, rfl, CoR.refl _⟩, trivial⟩, ⟨⟨_, rfl, (by first | (rw [membT_f (by omega) (by assumption)]; exact CoO.refl _) | (rw [membT_t (by omega) (by assumption), eqMs_snoc, eqM_same (by assumption)]; exact CoO.refl _) | (rw [membT_t (by omega) (by assumption), eqMs_snoc]; exact co_nsame (repM_end (by omega))))⟩, ⟨_, rfl, CoO.refl _⟩, ⟨_, rfl, CoO.refl _⟩, trivial⟩⟩
  · skip
    have h0 := r0
    have h0 := of_decide_eq_false h0
    try simp only [Int.toNat_natCast] at h0
    obtain rfl : j = n.toNat := by omega
    refine hw_exit ?_; show HW _ _ _ _ _; refine hw_seq ?_
    have hme := membT_all (s := s) (n := n.toNat) (by omega) hs
    refine hw_thin 901 rfl ?_; refine hw_freeze 9 rfl rfl rfl ?_; refine hw_region (E := TrydE) Trydok ?_; (iterate 3 refine rq rfl rfl rfl rfl rfl ?_)
    refine rc rfl rfl rfl rfl rfl rfl good46 (cRSorted n (rowsOf l (eqMs (matOf l) a b (membs s))) (by rw [rowsOf_len]; omega)) (⟨CoC.refl _, CoC.one (by rw [hme]; exact co_thinP rfl), trivial⟩) rfl rfl ?_
    refine rs rfl rfl rfl rfl rfl ?_; refine rg_nil ?_; show HW _ _ _ _ _; refine hw_ret ?_; refine ⟨.inr rfl, ?_⟩
    exact ⟨_, _, _, _, rfl, (by (repeat' apply And.intro) <;> first | trivial | exact Nat.le_of_ble_eq_true rfl | rfl), rfl, (by (repeat' apply And.intro) <;> first | trivial | exact Nat.le_of_ble_eq_true rfl | rfl), CoL.refl _⟩
end Go.Hx
end
section
namespace Go.Hx
open Go.Proofs
set_option maxRecDepth 100000
theorem good58 : goodFn Tryd.prog 58 := ⟨Tryd.f58, Tryd.func58, by kernel_rfl, by kernel_rfl⟩
theorem cRAdd (n : Int) (l : List Rw) (x : Fd) (a b : Nat) (h0 : 0 ≤ n) (h1 : n ≤ 16) (hrow : ∀ i, i < l.length → (l.getD i default).length = n.toNat) (hl2 : l.length ≤ 4294967296) (ha : a < l.length) (hb : b < l.length) : HPure Tryd.prog 58 [pT n l, x.pc, pI (a : Int), pI (b : Int)] (prOf [pT n (canon (l ++ [(mixZ (l.getD a default) (l.getD b default) (x.lhs ||| x.rhs))]))]) := by
  refine hpure_of (nt := 51) Trydok Tryd.func58 rfl rfl (Nat.le_of_ble_eq_true rfl) ?_; refine hw_seq ?_; refine hw_region (E := TrydE) Trydok ?_; refine rm 0 rfl rfl rfl rfl rfl rfl ?_; refine rm 1 rfl rfl rfl rfl rfl rfl ?_
  refine rm 2 rfl rfl rfl rfl rfl rfl ?_; refine rg_nil ?_; show HW _ _ _ _ _; refine hw_seq ?_
  have hra := hrow a ha
  have hrb := hrow b hb
  refine hw_region (E := TrydE) Trydok ?_; refine rm 3 rfl rfl rfl rfl rfl rfl ?_; (iterate 5 refine rq rfl rfl rfl rfl rfl ?_); refine ra 4 true rfl rfl rfl rfl rfl rfl ?_; refine rq rfl rfl rfl rfl rfl ?_; refine rg_nil ?_
  show HW _ _ _ _ _; (iterate 2 refine hw_seq ?_); refine hw_region (E := TrydE) Trydok ?_; refine rq rfl rfl rfl rfl rfl ?_; refine rg_nil ?_; show HW _ _ _ _ _; refine hw_block ?_
  refine hw_loopK (ι := Nat) ⟨[(2, some _), (4, some _), (5, some _), (8, some _), (9, some _)], [(0, some _), (1, some _), (2, some _)]⟩ ⟨⟨⟨_, rfl, CoR.refl _⟩, ⟨_, rfl, CoR.refl _⟩, ⟨_, rfl, CoR.refl _⟩, ⟨_, rfl, CoR.refl _⟩, ⟨_, rfl, CoR.refl _⟩, trivial⟩, ⟨⟨_, rfl, CoO.refl _⟩, ⟨_, rfl, CoO.refl _⟩, ⟨_, rfl, CoO.refl _⟩, trivial⟩⟩ (fun j => ⟨[(10, some (vI j))], [(3, some (.arr true 1 3 (0 + (l.getD b default).length) (lf zC (mixT (l.getD a default) (l.getD b default) (x.lhs ||| x.rhs) j))))]⟩) (fun j => j ≤ n.toNat) (fun j => n.toNat - j) (0) (Nat.zero_le _) ⟨⟨⟨_, rfl, (by first | exact CoR.refl _ | exact coi (by omega) | exact cob (by simp_all))⟩, trivial⟩, ⟨⟨_, rfl, (mix_init (fun _ _ => rfl))⟩, trivial⟩⟩ ?_
  rintro j hj
  (iterate 2 refine hw_seq ?_); refine hw_region (E := TrydE) Trydok ?_; (iterate 4 refine rq rfl rfl rfl rfl rfl ?_); refine rg_nil ?_; show HW _ _ _ _ _; refine hw_cond _ rfl (fun r0 => ?_) (fun r0 => ?_)
  · skip
    have h0 := r0
    have h0 := of_decide_eq_true h0
    try simp only [Int.toNat_natCast] at h0
    refine hw_skip ?_; show HW _ _ _ _ _; refine hw_seq ?_; refine hw_block ?_; refine hw_seq ?_; refine hw_region (E := TrydE) Trydok ?_; (iterate 6 refine rq rfl rfl rfl rfl rfl ?_)
    refine rc rfl rfl rfl rfl rfl rfl good45 (cHas (x.lhs ||| x.rhs) (j : Int)) (⟨cci (by rw [bOr]), CoC.refl _, trivial⟩) rfl rfl ?_; refine rg_nil ?_; show HW _ _ _ _ _; refine hw_cond _ rfl (fun r1 => ?_) (fun r1 => ?_)
    · skip
      have h1 := r1
      refine hw_region (E := TrydE) Trydok ?_; (iterate 8 refine rq rfl rfl rfl rfl rfl ?_)
      (iterate 3 refine rq rfl rfl rfl rfl rfl ?_ (hp := (by (try simp only [Int.toNat_natCast, nM]); (repeat' apply And.intro) <;> first | trivial | rfl | omega | exact Nat.le_of_ble_eq_true rfl)))
      refine rs rfl rfl rfl rfl rfl ?_ (hp := (by (try simp only [Int.toNat_natCast, nM]); (repeat' apply And.intro) <;> first | trivial | rfl | omega | exact Nat.le_of_ble_eq_true rfl)); refine rg_nil ?_; show HW _ _ _ _ _
      refine hw_region (E := TrydE) Trydok ?_; (iterate 3 refine rq rfl rfl rfl rfl rfl ?_); refine rg_nil ?_; refine ⟨j + 1, ?_, ?_, ?_⟩
      · show j + 1 ≤ _; omega
      · first | omega | (dsimp only; omega)
      · exact ⟨⟨⟨_, rfl, (by first | exact CoR.refl _ | exact coi (by omega) | exact cob (by simp_all))⟩, ⟨_, rfl, CoR.refl _⟩, ⟨_, rfl, CoR.refl _⟩, ⟨_, rfl, CoR.refl _⟩, ⟨_, rfl, CoR.refl _⟩, ⟨_, rfl, CoR.refl _⟩, trivial⟩, ⟨⟨_, rfl, (by first | exact co_mix_t (by omega) (by assumption) (by omega) (by omega) | exact co_mix_f (Bool.eq_false_iff.1 (by assumption)))⟩, ⟨_, rfl, CoO.refl _⟩, ⟨_, rfl, CoO.refl _⟩, ⟨_, rfl, CoO.refl _⟩, trivial⟩⟩
    · skip
      have h1 := r1
      refine hw_skip ?_; show HW _ _ _ _ _; refine hw_region (E := TrydE) Trydok ?_; (iterate 3 refine rq rfl rfl rfl rfl rfl ?_); refine rg_nil ?_; refine ⟨j + 1, ?_, ?_, ?_⟩
      · show j + 1 ≤ _; omega
      · first | omega | (dsimp only; omega)
      · exact ⟨⟨⟨_, rfl, (by first | exact CoR.refl _ | exact coi (by omega) | exact cob (by simp_all))⟩, ⟨_, rfl, CoR.refl _⟩, ⟨_, rfl, CoR.refl _⟩, ⟨_, rfl, CoR.refl _⟩, ⟨_, rfl, CoR.refl _⟩, ⟨_, rfl, CoR.refl _⟩, trivial⟩, ⟨⟨_, rfl, (by first | exact co_mix_t (by omega) (by assumption) (by omega) (by omega) | exact co_mix_f (Bool.eq_false_iff.1 (by assumption)))⟩, ⟨_, rfl, CoO.refl _⟩, ⟨_, rfl, CoO.refl _⟩, ⟨_, rfl, CoO.refl _⟩, trivial⟩⟩
  · skip
    have h0 := r0
    have h0 := of_decide_eq_false h0
    try simp only [Int.toNat_natCast] at h0
    obtain rfl : j = n.toNat := by omega
    refine hw_exit ?_; show HW _ _ _ _ _; refine hw_seq ?_; refine hw_freeze 9 rfl rfl rfl ?_; refine hw_draw (E := TrydE) Trydok Trydmixed [0, 1, 2, 3, 4, 5, 6, 7, 8, 9] ?_; (iterate 4 refine rq rfl rfl rfl rfl rfl ?_)
    refine rg_fcall rfl rfl rfl rfl rfl rfl good52 (cRCopied l (fun i hi => by rw [hrow i hi]; omega) (by omega)) (CoHCL.refl _) trivial rfl rfl ?_; refine rq rfl rfl rfl rfl rfl ?_; refine rm 5 rfl rfl rfl rfl rfl rfl ?_
    refine ra 6 true rfl rfl rfl rfl rfl rfl ?_
    refine rg_fcall rfl rfl rfl rfl rfl rfl good46 (HPure.eat (hcs := [.one (.p (.raw (.int .i64 n))), .one (.ref 901 (l ++ [(mixZ (l.getD a default) (l.getD b default) (x.lhs ||| x.rhs))]).length)]) (o1 := [(901, .arr true 1 25 (l ++ [(mixZ (l.getD a default) (l.getD b default) (x.lhs ||| x.rhs))]).length (lf rC (l ++ [(mixZ (l.getD a default) (l.getD b default) (x.lhs ||| x.rhs))])))]) (cRSorted n (l ++ [(mixZ (l.getD a default) (l.getD b default) (x.lhs ||| x.rhs))]) (by simp; omega)) rfl (by (repeat' apply And.intro) <;> first | trivial | rfl) (CoL.refl _)) (⟨CoP.refl _, congrArg (HV.ref 901) (by simp), trivial⟩) ⟨⟨_, rfl, (arr_app1 rfl (mix_fin (by first | omega | (simp only [Int.toNat_natCast]; omega)) (by first | omega | (simp only [Int.toNat_natCast]; omega))))⟩, trivial⟩ rfl rfl ?_
    refine rs rfl rfl rfl rfl rfl ?_; refine rg_nil ?_; refine ⟨by kernel_rfl, ?_⟩; show HW _ _ _ _ _; refine hw_ret ?_; refine ⟨.inr rfl, ?_⟩
    exact ⟨_, _, _, _, rfl, (by (repeat' apply And.intro) <;> first | trivial | exact Nat.le_of_ble_eq_true rfl | rfl), rfl, (by (repeat' apply And.intro) <;> first | trivial | exact Nat.le_of_ble_eq_true rfl | rfl), CoL.refl _⟩
end Go.Hx
end
section
namespace Go.Hx
open Go.Proofs
set_option maxRecDepth 100000
theorem good71 : goodFn Tryd.prog 71 := ⟨Tryd.f71, Tryd.func71, by kernel_rfl, by kernel_rfl⟩
theorem cChF (n : Int) (l : List Rw) (p m : List Fd) (i a b : Nat) (h0 : 0 ≤ n) (h1 : n ≤ 16) (hrow : ∀ i, i < l.length → (l.getD i default).length = n.toNat) (ha : a < l.length) (hb : b < l.length) (hi : i < p.length) : HPure Tryd.prog 71 [pT n l, pP (fdl p), pP (fdl m), .agg [.raw (.bool false), .raw (.int .i64 (i : Int)), .raw (.int .i64 (a : Int)), .raw (.int .i64 (b : Int))]] (prOf [pB (stepF l (p.getD i default) a b)]) := by
  refine hpure_of (nt := 85) Trydok Tryd.func71 rfl rfl (Nat.le_of_ble_eq_true rfl) ?_; refine hw_seq ?_; refine hw_region (E := TrydE) Trydok ?_; refine rm 0 rfl rfl rfl rfl rfl rfl ?_; refine rm 1 rfl rfl rfl rfl rfl rfl ?_
  refine rq rfl rfl rfl rfl rfl ?_; refine rg_nil ?_; show HW _ _ _ _ _; refine hw_seq ?_
  have hra := hrow a ha
  have hrb := hrow b hb
  refine hw_draw (E := TrydE) Trydok Trydmixed [0, 1, 2, 3, 4, 5, 6, 7, 8, 9, 10, 11, 12, 13] ?_; (iterate 14 refine rq rfl rfl rfl rfl rfl ?_); refine rg_nil ?_; refine ⟨by kernel_rfl, ?_⟩; show HW _ _ _ _ _
  (iterate 2 refine hw_seq ?_); refine hw_region (E := TrydE) Trydok ?_; (iterate 3 refine rq rfl rfl rfl rfl rfl ?_); refine rg_nil ?_; show HW _ _ _ _ _; refine hw_cond _ rfl (fun _ => ?_) (fun e => by cases e); refine hw_seq ?_
  refine hw_region (E := TrydE) Trydok ?_; (iterate 8 refine rq rfl rfl rfl rfl rfl ?_)
  refine rc rfl rfl rfl rfl rfl rfl good57 (cRAgree (l.getD a default) (l.getD b default) (p.getD i default).lhs (by omega) (by omega)) (CoL.refl _) rfl rfl ?_; refine rq rfl rfl rfl rfl rfl ?_
  refine rsplit rfl rfl (fun r0 => ?_) (fun r0 => ?_)
  · skip
    have h0 := r0
    (iterate 8 refine rq rfl rfl rfl rfl (gtt r0) ?_); refine rc rfl rfl rfl rfl rfl rfl good57 (cRAgree (l.getD a default) (l.getD b default) (p.getD i default).rhs (by omega) (by omega)) (CoL.refl _) rfl (gtt r0) ?_
    refine rq rfl rfl rfl rfl (gtt r0) ?_; (iterate 2 refine rq rfl rfl rfl rfl rfl ?_); refine rg_nil ?_; show HW _ _ _ _ _; refine hw_ret ?_; refine ⟨.inr rfl, ?_⟩
    exact ⟨_, _, _, _, rfl, (by (repeat' apply And.intro) <;> first | trivial | exact Nat.le_of_ble_eq_true rfl | rfl), rfl, (by (repeat' apply And.intro) <;> first | trivial | exact Nat.le_of_ble_eq_true rfl | rfl), ⟨ccb (by first | exact (stepF_f1 (by assumption)).symm | simp_all [stepF]), trivial⟩⟩
  · skip
    have h0 := r0
    (iterate 10 refine rk rfl rfl rfl (gft r0) ?_); refine rq rfl rfl rfl rfl rfl ?_ (hp := r0); refine rq rfl rfl rfl rfl rfl ?_; refine rg_nil ?_; show HW _ _ _ _ _; refine hw_ret ?_; refine ⟨.inr rfl, ?_⟩
    exact ⟨_, _, _, _, rfl, (by (repeat' apply And.intro) <;> first | trivial | exact Nat.le_of_ble_eq_true rfl | rfl), rfl, (by (repeat' apply And.intro) <;> first | trivial | exact Nat.le_of_ble_eq_true rfl | rfl), ⟨ccb (by first | exact (stepF_f1 (by assumption)).symm | simp_all [stepF]), trivial⟩⟩
theorem cChM (n : Int) (l : List Rw) (p m : List Fd) (i a b : Nat) (h0 : 0 ≤ n) (h1 : n ≤ 16) (hrow : ∀ i, i < l.length → (l.getD i default).length = n.toNat) (ha : a < l.length) (hb : b < l.length) (hi : i < m.length) : HPure Tryd.prog 71 [pT n l, pP (fdl p), pP (fdl m), .agg [.raw (.bool true), .raw (.int .i64 (i : Int)), .raw (.int .i64 (a : Int)), .raw (.int .i64 (b : Int))]] (prOf [pB (stepR l (m.getD i default) a b)]) := by
  refine hpure_of (nt := 85) Trydok Tryd.func71 rfl rfl (Nat.le_of_ble_eq_true rfl) ?_; refine hw_seq ?_; refine hw_region (E := TrydE) Trydok ?_; refine rm 0 rfl rfl rfl rfl rfl rfl ?_; refine rm 1 rfl rfl rfl rfl rfl rfl ?_
  refine rq rfl rfl rfl rfl rfl ?_; refine rg_nil ?_; show HW _ _ _ _ _; refine hw_seq ?_
  have hra := hrow a ha
  have hrb := hrow b hb
  refine hw_draw (E := TrydE) Trydok Trydmixed [0, 1, 2, 3, 4, 5, 6, 7, 8, 9, 10, 11, 12, 13] ?_; (iterate 14 refine rq rfl rfl rfl rfl rfl ?_); refine rg_nil ?_; refine ⟨by kernel_rfl, ?_⟩; show HW _ _ _ _ _
  (iterate 2 refine hw_seq ?_); refine hw_region (E := TrydE) Trydok ?_; (iterate 3 refine rq rfl rfl rfl rfl rfl ?_); refine rg_nil ?_; show HW _ _ _ _ _; refine hw_cond _ rfl (fun e => by cases e) (fun _ => ?_); refine hw_skip ?_
  show HW _ _ _ _ _; refine hw_seq ?_; refine hw_region (E := TrydE) Trydok ?_; (iterate 5 refine rq rfl rfl rfl rfl rfl ?_); refine rm 2 rfl rfl rfl rfl rfl rfl ?_; refine rs rfl rfl rfl rfl rfl ?_; refine rg_nil ?_
  show HW _ _ _ _ _; (iterate 2 refine hw_seq ?_); refine hw_region (E := TrydE) Trydok ?_; (iterate 4 refine rq rfl rfl rfl rfl rfl ?_)
  refine rc rfl rfl rfl rfl rfl rfl good57 (cRAgree (l.getD a default) (l.getD b default) (m.getD i default).lhs (by omega) (by omega)) (CoL.refl _) rfl rfl ?_; refine rq rfl rfl rfl rfl rfl ?_; refine rg_nil ?_; show HW _ _ _ _ _
  refine hw_cond _ rfl (fun r0 => ?_) (fun r0 => ?_)
  · skip
    have h0 := r0
    have h0 := not_t h0
    refine hw_seq ?_; refine hw_region (E := TrydE) Trydok ?_; refine rq rfl rfl rfl rfl rfl ?_; refine rg_nil ?_; show HW _ _ _ _ _; refine hw_ret ?_; refine ⟨.inr rfl, ?_⟩
    exact ⟨_, _, _, _, rfl, (by (repeat' apply And.intro) <;> first | trivial | exact Nat.le_of_ble_eq_true rfl | rfl), rfl, (by (repeat' apply And.intro) <;> first | trivial | exact Nat.le_of_ble_eq_true rfl | rfl), ⟨ccb (by unfold stepR; simp_all), trivial⟩⟩
  · skip
    have h0 := r0
    have h0 := not_f h0
    refine hw_skip ?_; show HW _ _ _ _ _; refine hw_seq ?_; refine hw_region (E := TrydE) Trydok ?_; refine rm 3 rfl rfl rfl rfl rfl rfl ?_; refine rq rfl rfl rfl rfl rfl ?_; refine ra 4 true rfl rfl rfl rfl rfl rfl ?_
    refine rq rfl rfl rfl rfl rfl ?_; refine rg_nil ?_; show HW _ _ _ _ _; (iterate 2 refine hw_seq ?_); refine hw_region (E := TrydE) Trydok ?_; refine rq rfl rfl rfl rfl rfl ?_; refine rg_nil ?_; show HW _ _ _ _ _
    refine hw_block ?_
    refine hw_loopK (ι := Nat) ⟨[(4, some _), (9, some _), (11, some _), (12, some _)], [(0, some _), (2, some _)]⟩ ⟨⟨⟨_, rfl, CoR.refl _⟩, ⟨_, rfl, CoR.refl _⟩, ⟨_, rfl, CoR.refl _⟩, ⟨_, rfl, CoR.refl _⟩, trivial⟩, ⟨⟨_, rfl, CoO.refl _⟩, ⟨_, rfl, CoO.refl _⟩, trivial⟩⟩ (fun j => ⟨[(13, some (vI j))], [(3, some (.arr true 1 3 (0 + (l.getD b default).length) (lf zC (mixT (l.getD a default) (l.getD b default) (m.getD i default).rhs j))))]⟩) (fun j => j ≤ n.toNat) (fun j => n.toNat - j) (0) (Nat.zero_le _) ⟨⟨⟨_, rfl, (by first | exact CoR.refl _ | exact coi (by omega) | exact cob (by simp_all))⟩, trivial⟩, ⟨⟨_, rfl, (mix_init (fun _ _ => rfl))⟩, trivial⟩⟩ ?_
    rintro j hj
    (iterate 2 refine hw_seq ?_); refine hw_region (E := TrydE) Trydok ?_; (iterate 4 refine rq rfl rfl rfl rfl rfl ?_); refine rg_nil ?_; show HW _ _ _ _ _; refine hw_cond _ rfl (fun r1 => ?_) (fun r1 => ?_)
    · skip
      have h1 := r1
      have h1 := of_decide_eq_true h1
      try simp only [Int.toNat_natCast] at h1
      refine hw_skip ?_; show HW _ _ _ _ _; refine hw_seq ?_; refine hw_block ?_; refine hw_seq ?_; refine hw_region (E := TrydE) Trydok ?_; (iterate 3 refine rq rfl rfl rfl rfl rfl ?_)
      refine rc rfl rfl rfl rfl rfl rfl good45 (cHas (m.getD i default).rhs (j : Int)) (CoL.refl _) rfl rfl ?_; refine rg_nil ?_; show HW _ _ _ _ _; refine hw_cond _ rfl (fun r2 => ?_) (fun r2 => ?_)
      · skip
        have h2 := r2
        refine hw_region (E := TrydE) Trydok ?_; (iterate 4 refine rq rfl rfl rfl rfl rfl ?_)
        (iterate 3 refine rq rfl rfl rfl rfl rfl ?_ (hp := (by (try simp only [Int.toNat_natCast, nM]); (repeat' apply And.intro) <;> first | trivial | rfl | omega | exact Nat.le_of_ble_eq_true rfl)))
        refine rs rfl rfl rfl rfl rfl ?_ (hp := (by (try simp only [Int.toNat_natCast, nM]); (repeat' apply And.intro) <;> first | trivial | rfl | omega | exact Nat.le_of_ble_eq_true rfl)); refine rg_nil ?_; show HW _ _ _ _ _
        refine hw_region (E := TrydE) Trydok ?_; (iterate 3 refine rq rfl rfl rfl rfl rfl ?_); refine rg_nil ?_; refine ⟨j + 1, ?_, ?_, ?_⟩
        · show j + 1 ≤ _; omega
        · first | omega | (dsimp only; omega)
        · exact ⟨⟨⟨_, rfl, (by first | exact CoR.refl _ | exact coi (by omega) | exact cob (by simp_all))⟩, ⟨_, rfl, CoR.refl _⟩, ⟨_, rfl, CoR.refl _⟩, ⟨_, rfl, CoR.refl _⟩, ⟨_, rfl, CoR.refl _⟩, trivial⟩, ⟨⟨_, rfl, (by first | exact co_mix_t (by omega) (by assumption) (by omega) (by omega) | exact co_mix_f (Bool.eq_false_iff.1 (by assumption)))⟩, ⟨_, rfl, CoO.refl _⟩, ⟨_, rfl, CoO.refl _⟩, trivial⟩⟩
      · skip
        have h2 := r2
        refine hw_skip ?_; show HW _ _ _ _ _; refine hw_region (E := TrydE) Trydok ?_; (iterate 3 refine rq rfl rfl rfl rfl rfl ?_); refine rg_nil ?_; refine ⟨j + 1, ?_, ?_, ?_⟩
        · show j + 1 ≤ _; omega
        · first | omega | (dsimp only; omega)
        · exact ⟨⟨⟨_, rfl, (by first | exact CoR.refl _ | exact coi (by omega) | exact cob (by simp_all))⟩, ⟨_, rfl, CoR.refl _⟩, ⟨_, rfl, CoR.refl _⟩, ⟨_, rfl, CoR.refl _⟩, ⟨_, rfl, CoR.refl _⟩, trivial⟩, ⟨⟨_, rfl, (by first | exact co_mix_t (by omega) (by assumption) (by omega) (by omega) | exact co_mix_f (Bool.eq_false_iff.1 (by assumption)))⟩, ⟨_, rfl, CoO.refl _⟩, ⟨_, rfl, CoO.refl _⟩, trivial⟩⟩
    · skip
      have h1 := r1
      have h1 := of_decide_eq_false h1
      try simp only [Int.toNat_natCast] at h1
      obtain rfl : j = n.toNat := by omega
      refine hw_exit ?_; show HW _ _ _ _ _; refine hw_seq ?_; refine hw_freeze 12 rfl rfl rfl ?_; refine hw_region (E := TrydE) Trydok ?_; (iterate 2 refine rq rfl rfl rfl rfl rfl ?_)
      refine rc rfl rfl rfl rfl rfl rfl good18 (cRCont n l (mixZ (l.getD a default) (l.getD b default) (m.getD i default).rhs)) (⟨CoC.refl _, mix_fin (by first | omega | (simp only [Int.toNat_natCast]; omega)) (by first | omega | (simp only [Int.toNat_natCast]; omega)), trivial⟩) rfl rfl ?_
      (iterate 2 refine rq rfl rfl rfl rfl rfl ?_); refine rg_nil ?_; show HW _ _ _ _ _; refine hw_ret ?_; refine ⟨.inr rfl, ?_⟩
      exact ⟨_, _, _, _, rfl, (by (repeat' apply And.intro) <;> first | trivial | exact Nat.le_of_ble_eq_true rfl | rfl), rfl, (by (repeat' apply And.intro) <;> first | trivial | exact Nat.le_of_ble_eq_true rfl | rfl), ⟨ccb (by unfold stepR; simp_all), trivial⟩⟩
end Go.Hx
end
section
namespace Go.Hx
open Go.Proofs
def muK (p : List Fd) (k : Nat) : Bool := decide (p.length ≤ k)
def ixK (p : List Fd) (k : Nat) : Nat := if p.length ≤ k then k - p.length else k
def chE (l : List Rw) (p m : List Fd) (s : St) : Bool := if s.1 = true then stepR l (m.getD s.2.1 default) s.2.2.1 s.2.2.2 else stepF l (p.getD s.2.1 default) s.2.2.1 s.2.2.2
theorem cCh (n : Int) (l : List Rw) (p m : List Fd) (k a b : Nat) (hT : tok n l = true) (ha : a < l.length) (hb : b < l.length) (hk : k < p.length + m.length) :
    HPure Tryd.prog 71 [pT n l, pP (fdl p), pP (fdl m), St.pc (muK p k, ixK p k, a, b)] (prOf [pB (chE l p m (muK p k, ixK p k, a, b))]) := by
  obtain ⟨h0, h1, h2, h3⟩ := tok_get hT
  by_cases h : p.length ≤ k
  · have e1 : muK p k = true := decide_eq_true h
    have e2 : ixK p k = k - p.length := if_pos h
    rw [e1, e2]
    exact cChM n l p m (k - p.length) a b h0 h1 h3 ha hb (by omega)
  · have e1 : muK p k = false := decide_eq_false h
    have e2 : ixK p k = k := if_neg h
    rw [e1, e2]
    exact cChF n l p m k a b h0 h1 h3 ha hb (by omega)
def stepK (l : List Rw) (p m : List Fd) (k a b : Nat) : Bool := decide (a ≠ b) && chE l p m (muK p k, ixK p k, a, b)
def nextK (l : List Rw) (p m : List Fd) : Option St := (firstF (stepK l p m) (p.length + m.length) l.length).map fun x => (muK p x.1, ixK p x.1, x.2.1, x.2.2)
section
variable {l : List Rw} {p m : List Fd} {k a b : Nat}
theorem stepK_t (h : ¬ a = b) (h2 : chE l p m (muK p k, ixK p k, a, b) = true) : stepK l p m k a b = true := by unfold stepK; rw [decide_eq_true h, h2]; rfl
theorem stepK_f1 (h : a = b) : stepK l p m k a b = false := by unfold stepK; rw [decide_eq_false (fun e => e h)]; rfl
theorem stepK_f2 (h2 : chE l p m (muK p k, ixK p k, a, b) = false) : stepK l p m k a b = false := by unfold stepK; rw [h2, Bool.and_false]
theorem nextK_t (h : firstF (stepK l p m) (p.length + m.length) l.length = some (k, a, b)) : nextK l p m = some (muK p k, ixK p k, a, b) := by unfold nextK; rw [h]; rfl
theorem nextK_n (h : firstF (stepK l p m) (p.length + m.length) l.length = none) : nextK l p m = none := by unfold nextK; rw [h]; rfl
end
end Go.Hx
end
