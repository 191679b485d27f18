/- A part of the proof: lemmas for the theorem of this claim, merged by a program of ours out of Ch6, X9, X10, Ch7, X11, Ch8. -/
import Derived.Test.YtididbpiikfaiaaDoorE19
import Derived.Test.YtididbpiikfaiaaDoorE24
set_option linter.all false
section
namespace Go.Hx
abbrev nM (l : List Rw) : Nat → Nat := fun i => (l.getD i default).length
abbrev matOf (l : List Rw) : Nat → Nat → Int := fun i r => (l.getD i default).getD r default
abbrev mg (M : Nat → Nat → Int) : Nat → Nat → Nat → PV := fun i r _ => .raw (.int .i64 (M i r))
theorem co_absorb {l : List Rw} {i k : Nat} {f : Nat → Nat → PV} {e et : TypeId} (hk : k = (l.getD i default).length) (hf : f = lf zC (l.getD i default)) :
    CoO (.nest e et 1 (i + 1) (takeM (nM l) i k) (takeG (mg (matOf l)) i f) none) (.nest e et 1 (i + 1) (nM l) (mg (matOf l)) none) := by
  subst hk hf
  have hm : ∀ j, takeM (nM l) i (l.getD i default).length j = nM l j := fun j => by
    by_cases h : j = i
    · subst h; rw [takeM_n]
    · rw [takeM_lt h]
  refine ⟨rfl, rfl, rfl, rfl, rfl, fun j _ => (hm j).symm, fun j r c hj hr hc => CoP.of_eq ?_⟩
  by_cases h : j = i
  · subst h
    rw [takeG_n]
    rfl
  · rw [takeG_lt h]
abbrev hiI (x y : Int) : Int := if x < y then y else x
abbrev loI (x y : Int) : Int := if y < x then y else x
def repM (M : Nat → Nat → Int) (hi lo : Int) (i k : Nat) : Nat → Nat → Int := fun i' r => if (i' < i ∨ (i' = i ∧ r < k)) ∧ M i' r = hi then lo else M i' r
def eqM (M : Nat → Nat → Int) (a b j : Nat) : Nat → Nat → Int := fun i r => if M i r = hiI (M a j) (M b j) then loI (M a j) (M b j) else M i r
def eqMs (M : Nat → Nat → Int) (a b : Nat) (js : List Nat) : Nat → Nat → Int := js.foldl (fun M j => eqM M a b j) M
def rowsOf (l : List Rw) (M : Nat → Nat → Int) : List Rw := (List.range l.length).map fun i => (List.range (l.getD i default).length).map (M i)
theorem rowsOf_len (l : List Rw) (M : Nat → Nat → Int) : (rowsOf l M).length = l.length := by unfold rowsOf; simp
theorem rowsOf_at {l : List Rw} {M : Nat → Nat → Int} {i : Nat} (h : i < l.length) : (rowsOf l M).getD i default = (List.range (l.getD i default).length).map (M i) := by
  unfold rowsOf
  rw [List.getD_eq_getElem?_getD, List.getElem?_map, List.getElem?_range h]
  rfl
theorem repM_zero {M : Nat → Nat → Int} {hi lo : Int} : repM M hi lo 0 0 = M := by
  funext i r
  unfold repM
  rw [if_neg (by omega)]
theorem repM_t {M : Nat → Nat → Int} {hi lo : Int} {i k : Nat} (h : repM M hi lo i k i k = hi) : repM M hi lo i (k + 1) = fun i' r => if i' = i ∧ r = k then lo else repM M hi lo i k i' r := by
  have h0 : M i k = hi := by
    unfold repM at h
    rwa [if_neg (by omega)] at h
  funext i' r
  unfold repM
  by_cases e : i' = i ∧ r = k
  · rw [if_pos e, if_pos ⟨.inr ⟨e.1, by omega⟩, by rw [e.1, e.2]; exact h0⟩]
  · rw [if_neg e]
    by_cases e2 : (i' < i ∨ (i' = i ∧ r < k)) ∧ M i' r = hi
    · rw [if_pos e2, if_pos ⟨e2.1.imp_right fun x => ⟨x.1, by omega⟩, e2.2⟩]
    · rw [if_neg e2, if_neg fun e3 => e2 ⟨by omega, e3.2⟩]
theorem repM_f {M : Nat → Nat → Int} {hi lo : Int} {i k : Nat} (h : ¬ repM M hi lo i k i k = hi) : repM M hi lo i (k + 1) = repM M hi lo i k := by
  have h0 : ¬ M i k = hi := by
    unfold repM at h
    rwa [if_neg (by omega)] at h
  funext i' r
  unfold repM
  by_cases e : i' = i ∧ r = k
  · rw [if_neg (fun x => h0 (by rw [← e.1, ← e.2]; exact x.2)), if_neg (fun x => h0 (by rw [← e.1, ← e.2]; exact x.2))]
  · by_cases e2 : (i' < i ∨ (i' = i ∧ r < k)) ∧ M i' r = hi
    · rw [if_pos e2, if_pos ⟨e2.1.imp_right fun x => ⟨x.1, by omega⟩, e2.2⟩]
    · rw [if_neg e2, if_neg fun e3 => e2 ⟨by omega, e3.2⟩]
theorem co_nset {n : Nat} {m : Nat → Nat} {e et : TypeId} {M M' : Nat → Nat → Int} {i k i0 k0 : Nat} {v : Int} (hM : M' = fun i' r => if i' = i ∧ r = k then v else M i' r) (hi : i0 = i) (hk : k0 = k) :
    CoO (.nest e et 1 n m (setRow3 (mg M) i0 k0 0 [.raw (.int .i64 v)]) none) (.nest e et 1 n m (mg M') none) := by
  subst hi hk hM
  refine ⟨rfl, rfl, rfl, rfl, rfl, fun j _ => rfl, fun j r c hj hr hc => CoP.of_eq ?_⟩
  obtain rfl : c = 0 := by omega
  unfold setRow3
  by_cases h : j = i0
  · rw [if_pos h]
    unfold setEl
    by_cases h2 : r = k0
    · rw [if_pos ⟨h2, by omega, by simp⟩]
      show _ = PV.raw (.int .i64 (if j = i0 ∧ r = k0 then v else M j r))
      rw [if_pos ⟨h, h2⟩]
      rfl
    · rw [if_neg (fun x => h2 x.1)]
      show _ = PV.raw (.int .i64 (if j = i0 ∧ r = k0 then v else M j r))
      rw [if_neg (fun x => h2 x.2)]
  · rw [if_neg h]
    show _ = PV.raw (.int .i64 (if j = i0 ∧ r = k0 then v else M j r))
    rw [if_neg (fun x => h x.1)]
theorem co_nsame {n : Nat} {m : Nat → Nat} {e et : TypeId} {M M' : Nat → Nat → Int} (h : ∀ i r, i < n → r < m i → M' i r = M i r) : CoO (.nest e et 1 n m (mg M) none) (.nest e et 1 n m (mg M') none) :=
  ⟨rfl, rfl, rfl, rfl, rfl, fun _ _ => rfl, fun j r c hj hr hc => CoP.of_eq (by show PV.raw (.int .i64 (M j r)) = PV.raw (.int .i64 (M' j r)); rw [h j r hj hr])⟩
theorem repM_row {M : Nat → Nat → Int} {hi lo : Int} {i k n : Nat} {m : Nat → Nat} (hk : ¬ k < m i) : ∀ i' r, i' < n → r < m i' → repM M hi lo (i + 1) 0 i' r = repM M hi lo i k i' r := fun i' r h1 h2 => by
  unfold repM
  by_cases e2 : (i' < i ∨ (i' = i ∧ r < k)) ∧ M i' r = hi
  · rw [if_pos e2, if_pos ⟨by omega, e2.2⟩]
  · rw [if_neg e2, if_neg fun e3 => e2 ⟨by
      rcases Nat.lt_or_ge i' i with h | h
      · exact .inl h
      · right
        obtain rfl : i' = i := by omega
        exact ⟨rfl, by omega⟩, e3.2⟩]
theorem repM_end {M : Nat → Nat → Int} {a b j n i : Nat} {m : Nat → Nat} (hn : ¬ i < n) : ∀ i' r, i' < n → r < m i' → eqM M a b j i' r = repM M (hiI (M a j) (M b j)) (loI (M a j) (M b j)) i 0 i' r := fun i' r h1 h2 => by
  unfold repM eqM
  by_cases e2 : M i' r = hiI (M a j) (M b j)
  · rw [if_pos e2, if_pos ⟨by omega, e2⟩]
  · rw [if_neg e2, if_neg fun e3 => e2 e3.2]
theorem eqM_same {M : Nat → Nat → Int} {a b j : Nat} (h : M a j = M b j) : eqM M a b j = M := by
  funext i r
  unfold eqM
  have e1 : hiI (M a j) (M b j) = M b j := by unfold hiI; rw [if_neg (by omega), h]
  have e2 : loI (M a j) (M b j) = M b j := by unfold loI; rw [if_neg (by omega), h]
  rw [e1, e2]
  by_cases e : M i r = M b j
  · rw [if_pos e, e]
  · rw [if_neg e]
theorem eqMs_take {M : Nat → Nat → Int} {a b i : Nat} {js : List Nat} (h : i < js.length) : eqMs M a b (js.take (i + 1)) = eqM (eqMs M a b (js.take i)) a b (js.getD i default) := by
  unfold eqMs
  rw [take_snoc h, List.foldl_append]
  rfl
theorem membs_le (s : AS) : (membs s).length ≤ 32 := Nat.le_trans (List.length_filter_le _ _) (by simp)
theorem getN_mem {l : List Nat} {j : Nat} (h : j < l.length) : l.getD j default ∈ l := by
  rw [List.getD_eq_getElem?_getD, List.getElem?_eq_getElem h]
  exact List.getElem_mem h
theorem co_thin {l : List Rw} {M : Nat → Nat → Int} {e : TypeId} {n : Nat} (hn : n = l.length) : CoO (.arr true 1 e n (thinF 1 (nM l) (mg M))) (.arr true 1 e (rowsOf l M).length (lf rC (rowsOf l M))) := by
  subst hn
  refine ⟨fun h => h, rfl, rfl, rowsOf_len l M, fun i j hi hj => ?_⟩
  show CoP (.sl (l.getD i default).length 1 false (mg M i)) (zl ((rowsOf l M).getD i default))
  rw [rowsOf_at hi]
  refine CoP.sl (by simp) (.inl rfl) (fun h => h) fun r c hr hc => CoP.of_eq ?_
  show PV.raw (.int .i64 (M i r)) = PV.raw (.int .i64 (((List.range (l.getD i default).length).map (M i)).getD r default))
  rw [List.getD_eq_getElem?_getD, List.getElem?_map, List.getElem?_range hr]
  rfl
end Go.Hx
end
section
namespace Go.Hx
open Go.Proofs
set_option maxRecDepth 100000
theorem cCopiedN (n : Int) (l : List Rw) (hl : ∀ i, i < l.length → (l.getD i default).length ≤ 17592186044416) (hl2 : l.length ≤ 5864062014805) : HFun Tryd.prog 48 [.agg [.p (.raw (.int .i64 n)), .p (rl l)]] [] (.v (.agg [.p (.raw (.int .i64 n)), .ref 901 l.length])) [(901, .nest 25 3 1 l.length (nM l) (mg (matOf l)) none)] [] := by
  refine hfun_of (nt := 25) Trydok Tryd.func48 rfl rfl (Nat.le_of_ble_eq_true rfl) rfl ?_; refine hw_seq ?_; refine hw_region (E := TrydE) Trydok ?_; refine rm 0 rfl rfl rfl rfl rfl rfl ?_; refine rm 1 rfl rfl rfl rfl rfl rfl ?_
  refine rg_nil ?_; show HW _ _ _ _ _; refine hw_seq ?_; refine hw_region (E := TrydE) Trydok ?_; (iterate 3 refine rq rfl rfl rfl rfl rfl ?_); refine rm 2 rfl rfl rfl rfl rfl rfl ?_; refine rs rfl rfl rfl rfl rfl ?_
  refine rg_nil ?_; refine hw_adopt_cellN 2 1 901 25 3 1 (nM l) (mg (matOf l)) (by decide) rfl rfl rfl rfl ?_; show HW _ _ _ _ _; (iterate 2 refine hw_seq ?_); refine hw_region (E := TrydE) Trydok ?_
  (iterate 4 refine rq rfl rfl rfl rfl rfl ?_); refine rg_nil ?_; show HW _ _ _ _ _; refine hw_block ?_
  refine hw_loopK (ι := Nat) ⟨[(2, some _), (3, some _), (10, some _), (11, some _)], [(1, some _)]⟩ ⟨⟨⟨_, rfl, CoR.refl _⟩, ⟨_, rfl, CoR.refl _⟩, ⟨_, rfl, CoR.refl _⟩, ⟨_, rfl, CoR.refl _⟩, trivial⟩, ⟨⟨_, rfl, CoO.refl _⟩, trivial⟩⟩ (fun i => ⟨[(12, some (vI i))], [(2, some (.box [.p (.raw (.int .i64 n)), .ref 901 i])), (901, some (.nest 25 3 1 i (nM l) (mg (matOf l)) none))]⟩) (fun i => i ≤ l.length) (fun i => l.length - i) (0) (Nat.zero_le _) ⟨⟨⟨_, rfl, (by first | exact CoR.refl _ | exact coi (by omega) | exact cob (by simp_all))⟩, trivial⟩, ⟨⟨_, rfl, CoO.refl _⟩, ⟨_, rfl, CoO.refl _⟩, trivial⟩⟩ ?_
  rintro i hi
  refine hw_seq ?_; refine hw_region (E := TrydE) Trydok ?_; refine rq rfl rfl rfl rfl rfl ?_; refine rg_nil ?_; show HW _ _ _ _ _; refine hw_seq ?_; refine hw_cond _ rfl (fun r0 => ?_) (fun r0 => ?_)
  · skip
    have h0 := r0
    have h0 := of_decide_eq_true h0
    try simp only [Int.toNat_natCast] at h0
    refine hw_skip ?_; show HW _ _ _ _ _; refine hw_seq ?_; refine hw_block ?_; refine hw_seq ?_; refine hw_region (E := TrydE) Trydok ?_; (iterate 3 refine rq rfl rfl rfl rfl rfl ?_); refine rg_nil ?_; show HW _ _ _ _ _
    refine hw_draw (E := TrydE) Trydok Trydmixed [0, 1, 2, 3, 4, 5, 6, 7] ?_; (iterate 3 refine rq rfl rfl rfl rfl rfl ?_)
    refine rg_fcall rfl rfl rfl rfl rfl rfl good17 ((clone17 (l.getD i default).length false (lf zC (l.getD i default)) (hl i (by omega))).swap 0 907) (CoHCL.refl _) trivial rfl rfl ?_; refine rm 3 rfl rfl rfl rfl rfl rfl ?_
    refine ra 4 true rfl rfl rfl rfl rfl rfl ?_; refine rq rfl rfl rfl rfl rfl ?_; refine rs rfl rfl rfl rfl rfl ?_; refine rg_nil ?_; refine ⟨by kernel_rfl, ?_⟩; refine hw_absorb 901 907 rfl rfl ?_; show HW _ _ _ _ _
    refine hw_region (E := TrydE) Trydok ?_; (iterate 2 refine rq rfl rfl rfl rfl rfl ?_); refine rg_nil ?_; refine ⟨i + 1, ?_, ?_, ?_⟩
    · show i + 1 ≤ _; omega
    · first | omega | (dsimp only; omega)
    · exact ⟨⟨⟨_, rfl, (by first | exact CoR.refl _ | exact coi (by omega) | exact cob (by simp_all))⟩, ⟨_, rfl, CoR.refl _⟩, ⟨_, rfl, CoR.refl _⟩, ⟨_, rfl, CoR.refl _⟩, ⟨_, rfl, CoR.refl _⟩, trivial⟩, ⟨⟨_, rfl, CoO.refl _⟩, ⟨_, rfl, (co_absorb rfl rfl)⟩, ⟨_, rfl, CoO.refl _⟩, trivial⟩⟩
  · skip
    have h0 := r0
    have h0 := of_decide_eq_false h0
    try simp only [Int.toNat_natCast] at h0
    obtain rfl : i = l.length := by omega
    refine hw_exit ?_; show HW _ _ _ _ _; refine hw_seq ?_; refine hw_region (E := TrydE) Trydok ?_; refine rq rfl rfl rfl rfl rfl ?_; refine rs rfl rfl rfl rfl rfl ?_; refine rg_nil ?_; show HW _ _ _ _ _; refine hw_ret ?_
    refine ⟨.inr rfl, ?_⟩
    exact ⟨_, _, rfl, (by (repeat' apply And.intro) <;> first | trivial | exact Nat.le_of_ble_eq_true rfl), CoR.refl _, ⟨⟨_, rfl, CoO.refl _⟩, trivial⟩⟩
end Go.Hx
end
section
namespace Go.Hx
open Go.Proofs
set_option maxRecDepth 100000
theorem good67 : goodFn Tryd.prog 67 := ⟨Tryd.f67, Tryd.func67, by kernel_rfl, by kernel_rfl⟩
theorem cEquate (n : Int) (l : List Rw) (s : AS) (a b : Nat) (hl : ∀ i, i < l.length → (l.getD i default).length ≤ 17592186044416) (hl2 : l.length ≤ 8589934592) (ha : a < l.length) (hb : b < l.length) (hs : ∀ j, j ∈ membs s → ∀ i, i < l.length → j < (l.getD i default).length) : HPure Tryd.prog 67 [pT n l, pA s, pI (a : Int), pI (b : Int)] (prOf [pT n (canon (rowsOf l (eqMs (matOf l) a b (membs s))))]) := by
  refine hpure_of (nt := 76) Trydok Tryd.func67 rfl rfl (Nat.le_of_ble_eq_true rfl) ?_; refine hw_seq ?_; refine hw_region (E := TrydE) Trydok ?_; refine rm 0 rfl rfl rfl rfl rfl rfl ?_; refine rm 1 rfl rfl rfl rfl rfl rfl ?_
  refine rg_nil ?_; show HW _ _ _ _ _; refine hw_seq ?_; refine hw_region (E := TrydE) Trydok ?_; refine rq rfl rfl rfl rfl rfl ?_
  refine rg_fcall rfl rfl rfl rfl rfl rfl good48 (cCopiedN n l hl (by omega)) (CoHCL.refl _) trivial rfl rfl ?_; refine rm 2 rfl rfl rfl rfl rfl rfl ?_; refine rs rfl rfl rfl rfl rfl ?_; refine rg_nil ?_; show HW _ _ _ _ _
  (iterate 2 refine hw_seq ?_); refine hw_region (E := TrydE) Trydok ?_; refine rq rfl rfl rfl rfl rfl ?_; refine rc rfl rfl rfl rfl rfl rfl good76 (cMem s) (CoL.refl _) rfl rfl ?_; (iterate 2 refine rq rfl rfl rfl rfl rfl ?_)
  refine rg_nil ?_; show HW _ _ _ _ _; refine hw_block ?_
  refine hw_loopK (ι := Nat) ⟨[(2, some _), (3, some _), (8, some _), (9, some _), (20, some _), (21, some _)], [(1, some _), (2, some _)]⟩ ⟨⟨⟨_, rfl, CoR.refl _⟩, ⟨_, rfl, CoR.refl _⟩, ⟨_, rfl, CoR.refl _⟩, ⟨_, rfl, CoR.refl _⟩, ⟨_, rfl, CoR.refl _⟩, ⟨_, rfl, CoR.refl _⟩, trivial⟩, ⟨⟨_, rfl, CoO.refl _⟩, ⟨_, rfl, CoO.refl _⟩, trivial⟩⟩ (fun q => ⟨[(22, some (vI q))], [(901, some (.nest 25 3 1 l.length (fun i => (l.getD i default).length) (mg (eqMs (matOf l) a b ((membs s).take q))) none))]⟩) (fun q => q ≤ (membs s).length) (fun q => (membs s).length - q) (0) (Nat.zero_le _) ⟨⟨⟨_, rfl, (by first | exact CoR.refl _ | exact coi (by omega) | exact cob (by simp_all))⟩, trivial⟩, ⟨⟨_, rfl, CoO.refl _⟩, trivial⟩⟩ ?_
  rintro q hq
  have hm32 := membs_le s
  refine hw_seq ?_; refine hw_region (E := TrydE) Trydok ?_; refine rq rfl rfl rfl rfl rfl ?_; refine rg_nil ?_; show HW _ _ _ _ _; refine hw_seq ?_; refine hw_cond _ rfl (fun r0 => ?_) (fun r0 => ?_)
  · skip
    have h0 := r0
    have h0 := of_decide_eq_true h0
    try simp only [Int.toNat_natCast] at h0
    have hjm : ((membs s).getD q default) ∈ membs s := getN_mem (by omega)
    have hja := hs _ hjm a ha
    have hjb := hs _ hjm b hb
    refine hw_skip ?_; show HW _ _ _ _ _; refine hw_seq ?_; refine hw_block ?_; refine hw_seq ?_; refine hw_region (E := TrydE) Trydok ?_; (iterate 3 refine rq rfl rfl rfl rfl rfl ?_); refine rg_nil ?_; show HW _ _ _ _ _
    refine hw_seq ?_; refine hw_draw (E := TrydE) Trydok Trydmixed [0, 1, 2, 3, 4, 5, 6, 7, 8, 9, 10, 11, 12, 13, 14, 15, 16, 17] ?_; (iterate 6 refine rq rfl rfl rfl rfl rfl ?_)
    refine rq rfl rfl rfl rfl rfl ?_ (hp := (by (try simp only [Int.toNat_natCast, nM]); (repeat' apply And.intro) <;> first | trivial | rfl | omega | exact Nat.le_of_ble_eq_true rfl)); (iterate 7 refine rq rfl rfl rfl rfl rfl ?_)
    refine rq rfl rfl rfl rfl rfl ?_ (hp := (by (try simp only [Int.toNat_natCast, nM]); (repeat' apply And.intro) <;> first | trivial | rfl | omega | exact Nat.le_of_ble_eq_true rfl)); (iterate 3 refine rq rfl rfl rfl rfl rfl ?_)
    refine rg_nil ?_; refine ⟨by kernel_rfl, ?_⟩; show HW _ _ _ _ _; (iterate 2 refine hw_seq ?_); refine hw_region (E := TrydE) Trydok ?_; (iterate 3 refine rq rfl rfl rfl rfl rfl ?_); refine rg_nil ?_; show HW _ _ _ _ _
    refine hw_cond _ rfl (fun r1 => ?_) (fun r1 => ?_)
    · skip
      have h1 := r1
      have h1 := of_decide_eq_true h1
      try simp only [Int.toNat_natCast] at h1
      refine hw_exit ?_; show HW _ _ _ _ _; refine hw_region (E := TrydE) Trydok ?_; (iterate 2 refine rq rfl rfl rfl rfl rfl ?_); refine rg_nil ?_
      first | (refine ⟨q + 1, ?_, ?_, ?_⟩
               · show q + 1 ≤ _; omega
               · first | omega | (dsimp only; omega)
               · exact ⟨⟨⟨_, rfl, (by first | exact CoR.refl _ | exact coi (by omega) | exact cob (by simp_all))⟩, ⟨_, rfl, CoR.refl _⟩, ⟨_, rfl, CoR.refl _⟩, ⟨_, rfl, CoR.refl _⟩, ⟨_, rfl, CoR.refl _⟩, ⟨_, rfl, CoR.refl _⟩, ⟨_, rfl, CoR.refl _⟩, trivial⟩, ⟨⟨_, rfl, (by rw [eqMs_take (by omega), eqM_same (by assumption)]; exact CoO.refl _)⟩, ⟨_, rfl, CoO.refl _⟩, ⟨_, rfl, CoO.refl _⟩, trivial⟩⟩)
            | (refine ⟨q + 1, ?_, ?_, ?_⟩
               · show q + 1 ≤ _; omega
               · first | omega | (dsimp only; omega)
               · exact ⟨⟨⟨_, rfl, (by first | exact CoR.refl _ | exact coi (by omega) | exact cob (by simp_all))⟩, ⟨_, rfl, CoR.refl _⟩, ⟨_, rfl, CoR.refl _⟩, ⟨_, rfl, CoR.refl _⟩, ⟨_, rfl, CoR.refl _⟩, ⟨_, rfl, CoR.refl _⟩, ⟨_, rfl, CoR.refl _⟩, trivial⟩, ⟨⟨_, rfl, (by rw [eqMs_take (by omega)]; exact co_nsame (repM_end (by omega)))⟩, ⟨_, rfl, CoO.refl _⟩, ⟨_, rfl, CoO.refl _⟩, trivial⟩⟩)
    · skip
      have h1 := r1
      have h1 := of_decide_eq_false h1
      try simp only [Int.toNat_natCast] at h1
      refine hw_skip ?_; show HW _ _ _ _ _; refine hw_seq ?_; refine hw_region (E := TrydE) Trydok ?_; (iterate 4 refine rq rfl rfl rfl rfl rfl ?_); refine rg_nil ?_; show HW _ _ _ _ _; refine hw_block ?_
      refine hw_loopK (ι := Nat) ⟨[(2, some _), (3, some _), (8, some _), (9, some _), (12, some _), (13, some _), (20, some _), (21, some _), (22, some _), (46, some _), (47, some _)], [(1, some _), (2, some _)]⟩ ⟨⟨⟨_, rfl, CoR.refl _⟩, ⟨_, rfl, CoR.refl _⟩, ⟨_, rfl, CoR.refl _⟩, ⟨_, rfl, CoR.refl _⟩, ⟨_, rfl, CoR.refl _⟩, ⟨_, rfl, CoR.refl _⟩, ⟨_, rfl, CoR.refl _⟩, ⟨_, rfl, CoR.refl _⟩, ⟨_, rfl, CoR.refl _⟩, ⟨_, rfl, CoR.refl _⟩, ⟨_, rfl, CoR.refl _⟩, trivial⟩, ⟨⟨_, rfl, CoO.refl _⟩, ⟨_, rfl, CoO.refl _⟩, trivial⟩⟩ (fun i => ⟨[(48, some (vI i))], [(901, some (.nest 25 3 1 l.length (fun i => (l.getD i default).length) (mg (repM (eqMs (matOf l) a b ((membs s).take q)) (hiI ((eqMs (matOf l) a b ((membs s).take q)) a ((membs s).getD q default)) ((eqMs (matOf l) a b ((membs s).take q)) b ((membs s).getD q default))) (loI ((eqMs (matOf l) a b ((membs s).take q)) a ((membs s).getD q default)) ((eqMs (matOf l) a b ((membs s).take q)) b ((membs s).getD q default))) i 0)) none))]⟩) (fun i => i ≤ l.length) (fun i => l.length - i) (0) (Nat.zero_le _) ⟨⟨⟨_, rfl, (by first | exact CoR.refl _ | exact coi (by omega) | exact cob (by simp_all))⟩, trivial⟩, ⟨⟨_, rfl, (by rw [repM_zero]; exact CoO.refl _)⟩, trivial⟩⟩ ?_
      rintro i hi
      refine hw_seq ?_; refine hw_region (E := TrydE) Trydok ?_; refine rq rfl rfl rfl rfl rfl ?_; refine rg_nil ?_; show HW _ _ _ _ _; refine hw_seq ?_; refine hw_cond _ rfl (fun r2 => ?_) (fun r2 => ?_)
      · skip
        have h2 := r2
        have h2 := of_decide_eq_true h2
        try simp only [Int.toNat_natCast] at h2
        have hli := hl i (by omega)
        refine hw_skip ?_; show HW _ _ _ _ _; refine hw_seq ?_; refine hw_block ?_; refine hw_seq ?_; refine hw_region (E := TrydE) Trydok ?_; (iterate 3 refine rq rfl rfl rfl rfl rfl ?_); refine rg_nil ?_; show HW _ _ _ _ _
        refine hw_seq ?_; refine hw_region (E := TrydE) Trydok ?_; (iterate 3 refine rq rfl rfl rfl rfl rfl ?_); refine rg_nil ?_; show HW _ _ _ _ _; refine hw_block ?_
        refine hw_loopK (ι := Nat) ⟨[(2, some _), (3, some _), (8, some _), (9, some _), (12, some _), (13, some _), (15, some _), (20, some _), (21, some _), (22, some _), (46, some _), (47, some _), (48, some _), (53, some _)], [(1, some _), (2, some _)]⟩ ⟨⟨⟨_, rfl, CoR.refl _⟩, ⟨_, rfl, CoR.refl _⟩, ⟨_, rfl, CoR.refl _⟩, ⟨_, rfl, CoR.refl _⟩, ⟨_, rfl, CoR.refl _⟩, ⟨_, rfl, CoR.refl _⟩, ⟨_, rfl, CoR.refl _⟩, ⟨_, rfl, CoR.refl _⟩, ⟨_, rfl, CoR.refl _⟩, ⟨_, rfl, CoR.refl _⟩, ⟨_, rfl, CoR.refl _⟩, ⟨_, rfl, CoR.refl _⟩, ⟨_, rfl, CoR.refl _⟩, ⟨_, rfl, CoR.refl _⟩, trivial⟩, ⟨⟨_, rfl, CoO.refl _⟩, ⟨_, rfl, CoO.refl _⟩, trivial⟩⟩ (fun k => ⟨[(54, some (vI k))], [(901, some (.nest 25 3 1 l.length (fun i => (l.getD i default).length) (mg (repM (eqMs (matOf l) a b ((membs s).take q)) (hiI ((eqMs (matOf l) a b ((membs s).take q)) a ((membs s).getD q default)) ((eqMs (matOf l) a b ((membs s).take q)) b ((membs s).getD q default))) (loI ((eqMs (matOf l) a b ((membs s).take q)) a ((membs s).getD q default)) ((eqMs (matOf l) a b ((membs s).take q)) b ((membs s).getD q default))) i k)) none))]⟩) (fun k => k ≤ (l.getD i default).length) (fun k => (l.getD i default).length - k) (0) (Nat.zero_le _) ⟨⟨⟨_, rfl, (by first | exact CoR.refl _ | exact coi (by omega) | exact cob (by simp_all))⟩, trivial⟩, ⟨⟨_, rfl, CoO.refl _⟩, trivial⟩⟩ ?_
        rintro k hk
        refine hw_seq ?_; refine hw_region (E := TrydE) Trydok ?_; refine rq rfl rfl rfl rfl rfl ?_; refine rg_nil ?_; show HW _ _ _ _ _; refine hw_seq ?_; refine hw_cond _ rfl (fun r3 => ?_) (fun r3 => ?_)
        · skip
          have h3 := r3
          have h3 := of_decide_eq_true h3
          try simp only [Int.toNat_natCast] at h3
          refine hw_skip ?_; show HW _ _ _ _ _; refine hw_seq ?_; refine hw_block ?_; refine hw_seq ?_; refine hw_region (E := TrydE) Trydok ?_; (iterate 2 refine rq rfl rfl rfl rfl rfl ?_); refine rg_nil ?_; show HW _ _ _ _ _
          refine hw_seq ?_; refine hw_region (E := TrydE) Trydok ?_; (iterate 2 refine rq rfl rfl rfl rfl rfl ?_)
          (iterate 2 refine rq rfl rfl rfl rfl rfl ?_ (hp := (by (try simp only [Int.toNat_natCast, nM]); (repeat' apply And.intro) <;> first | trivial | rfl | omega | exact Nat.le_of_ble_eq_true rfl)))
          (iterate 4 refine rq rfl rfl rfl rfl rfl ?_); refine rg_nil ?_; show HW _ _ _ _ _; refine hw_cond _ rfl (fun r4 => ?_) (fun r4 => ?_)
          · skip
            have h4 := r4
            have h4 := of_decide_eq_true h4
            try simp only [Int.toNat_natCast] at h4
            refine hw_region (E := TrydE) Trydok ?_; (iterate 5 refine rq rfl rfl rfl rfl rfl ?_)
            refine rq rfl rfl rfl rfl rfl ?_ (hp := (by (try simp only [Int.toNat_natCast, nM]); (repeat' apply And.intro) <;> first | trivial | rfl | omega | exact Nat.le_of_ble_eq_true rfl))
            refine rs rfl rfl rfl rfl rfl ?_ (hp := (by (try simp only [Int.toNat_natCast, nM]); (repeat' apply And.intro) <;> first | trivial | rfl | omega | exact Nat.le_of_ble_eq_true rfl)); refine rg_nil ?_; show HW _ _ _ _ _
            refine hw_region (E := TrydE) Trydok ?_; (iterate 2 refine rq rfl rfl rfl rfl rfl ?_); refine rg_nil ?_; refine ⟨k + 1, ?_, ?_, ?_⟩
            · show k + 1 ≤ _; omega
            · first | omega | (dsimp only; omega)
            · exact ⟨⟨⟨_, rfl, (by first | exact CoR.refl _ | exact coi (by omega) | exact cob (by simp_all))⟩, ⟨_, rfl, CoR.refl _⟩, ⟨_, rfl, CoR.refl _⟩, ⟨_, rfl, CoR.refl _⟩, ⟨_, rfl, CoR.refl _⟩, ⟨_, rfl, CoR.refl _⟩, ⟨_, rfl, CoR.refl _⟩, ⟨_, rfl, CoR.refl _⟩, ⟨_, rfl, CoR.refl _⟩, ⟨_, rfl, CoR.refl _⟩, ⟨_, rfl, CoR.refl _⟩, ⟨_, rfl, CoR.refl _⟩, ⟨_, rfl, CoR.refl _⟩, ⟨_, rfl, CoR.refl _⟩, ⟨_, rfl, CoR.refl _⟩, trivial⟩, ⟨⟨_, rfl, (by first | exact co_nset (repM_t (by assumption)) (by simp) (by simp) | (rw [repM_f (by assumption)]; exact CoO.refl _))⟩, ⟨_, rfl, CoO.refl _⟩, ⟨_, rfl, CoO.refl _⟩, trivial⟩⟩
          · skip
            have h4 := r4
            have h4 := of_decide_eq_false h4
            try simp only [Int.toNat_natCast] at h4
            refine hw_skip ?_; show HW _ _ _ _ _; refine hw_region (E := TrydE) Trydok ?_; (iterate 2 refine rq rfl rfl rfl rfl rfl ?_); refine rg_nil ?_; refine ⟨k + 1, ?_, ?_, ?_⟩
            · show k + 1 ≤ _; omega
            · first | omega | (dsimp only; omega)
            · exact ⟨⟨⟨_, rfl, (by first | exact CoR.refl _ | exact coi (by omega) | exact cob (by simp_all))⟩, ⟨_, rfl, CoR.refl _⟩, ⟨_, rfl, CoR.refl _⟩, ⟨_, rfl, CoR.refl _⟩, ⟨_, rfl, CoR.refl _⟩, ⟨_, rfl, CoR.refl _⟩, ⟨_, rfl, CoR.refl _⟩, ⟨_, rfl, CoR.refl _⟩, ⟨_, rfl, CoR.refl _⟩, ⟨_, rfl, CoR.refl _⟩, ⟨_, rfl, CoR.refl _⟩, ⟨_, rfl, CoR.refl _⟩, ⟨_, rfl, CoR.refl _⟩, ⟨_, rfl, CoR.refl _⟩, ⟨_, rfl, CoR.refl _⟩, trivial⟩, ⟨⟨_, rfl, (by first | exact co_nset (repM_t (by assumption)) (by simp) (by simp) | (rw [repM_f (by assumption)]; exact CoO.refl _))⟩, ⟨_, rfl, CoO.refl _⟩, ⟨_, rfl, CoO.refl _⟩, trivial⟩⟩
        · skip
          have h3 := r3
          have h3 := of_decide_eq_false h3
          try simp only [Int.toNat_natCast] at h3
          refine hw_exit ?_; show HW _ _ _ _ _; refine hw_region (E := TrydE) Trydok ?_; (iterate 2 refine rq rfl rfl rfl rfl rfl ?_); refine rg_nil ?_; refine ⟨i + 1, ?_, ?_, ?_⟩
          · show i + 1 ≤ _; omega
          · first | omega | (dsimp only; omega)
          · exact ⟨⟨⟨_, rfl, (by first | exact CoR.refl _ | exact coi (by omega) | exact cob (by simp_all))⟩, ⟨_, rfl, CoR.refl _⟩, ⟨_, rfl, CoR.refl _⟩, ⟨_, rfl, CoR.refl _⟩, ⟨_, rfl, CoR.refl _⟩, ⟨_, rfl, CoR.refl _⟩, ⟨_, rfl, CoR.refl _⟩, ⟨_, rfl, CoR.refl _⟩, ⟨_, rfl, CoR.refl _⟩, ⟨_, rfl, CoR.refl _⟩, ⟨_, rfl, CoR.refl _⟩, ⟨_, rfl, CoR.refl _⟩, trivial⟩, ⟨⟨_, rfl, (co_nsame (repM_row (by omega)))⟩, ⟨_, rfl, CoO.refl _⟩, ⟨_, rfl, CoO.refl _⟩, trivial⟩⟩
      · skip
        have h2 := r2
        have h2 := of_decide_eq_false h2
        try simp only [Int.toNat_natCast] at h2
        refine hw_exit ?_; show HW _ _ _ _ _; refine hw_region (E := TrydE) Trydok ?_; (iterate 2 refine rq rfl rfl rfl rfl rfl ?_); refine rg_nil ?_
        first | (refine ⟨q + 1, ?_, ?_, ?_⟩
                 · show q + 1 ≤ _; omega
                 · first | omega | (dsimp only; omega)
                 · exact ⟨⟨⟨_, rfl, (by first | exact CoR.refl _ | exact coi (by omega) | exact cob (by simp_all))⟩, ⟨_, rfl, CoR.refl _⟩, ⟨_, rfl, CoR.refl _⟩, ⟨_, rfl, CoR.refl _⟩, ⟨_, rfl, CoR.refl _⟩, ⟨_, rfl, CoR.refl _⟩, ⟨_, rfl, CoR.refl _⟩, trivial⟩, ⟨⟨_, rfl, (by rw [eqMs_take (by omega), eqM_same (by assumption)]; exact CoO.refl _)⟩, ⟨_, rfl, CoO.refl _⟩, ⟨_, rfl, CoO.refl _⟩, trivial⟩⟩)
              | (refine ⟨q + 1, ?_, ?_, ?_⟩
                 · show q + 1 ≤ _; omega
                 · first | omega | (dsimp only; omega)
                 · exact ⟨⟨⟨_, rfl, (by first | exact CoR.refl _ | exact coi (by omega) | exact cob (by simp_all))⟩, ⟨_, rfl, CoR.refl _⟩, ⟨_, rfl, CoR.refl _⟩, ⟨_, rfl, CoR.refl _⟩, ⟨_, rfl, CoR.refl _⟩, ⟨_, rfl, CoR.refl _⟩, ⟨_, rfl, CoR.refl _⟩, trivial⟩, ⟨⟨_, rfl, (by rw [eqMs_take (by omega)]; exact co_nsame (repM_end (by omega)))⟩, ⟨_, rfl, CoO.refl _⟩, ⟨_, rfl, CoO.refl _⟩, trivial⟩⟩)
  · skip
    have h0 := r0
    have h0 := of_decide_eq_false h0
    try simp only [Int.toNat_natCast] at h0
    obtain rfl : q = (membs s).length := by omega
    refine hw_exit ?_; show HW _ _ _ _ _; refine hw_seq ?_; refine hw_thin 901 rfl ?_; refine hw_region (E := TrydE) Trydok ?_; refine rq rfl rfl rfl rfl rfl ?_
    refine rg_fcall rfl rfl rfl rfl rfl rfl good43 ((cSorted n (rowsOf l (eqMs (matOf l) a b (membs s))) (by rw [rowsOf_len]; omega)).swap 900 901) (⟨⟨CoP.refl _, congrArg (HV.ref 901) (rowsOf_len _ _).symm, trivial⟩, trivial⟩) ⟨⟨_, rfl, (by rw [List.take_length]; exact co_thin rfl)⟩, trivial⟩ rfl rfl ?_
    refine rs rfl rfl rfl rfl rfl ?_; refine rg_nil ?_; show HW _ _ _ _ _; refine hw_ret ?_; refine ⟨.inr rfl, ?_⟩
    exact ⟨_, _, _, _, rfl, (by (repeat' apply And.intro) <;> first | trivial | exact Nat.le_of_ble_eq_true rfl | rfl), rfl, (by (repeat' apply And.intro) <;> first | trivial | exact Nat.le_of_ble_eq_true rfl | rfl), CoL.refl _⟩
end Go.Hx
end
section
namespace Go.Hx
def addE (n : Int) (l : List Rw) (row : Rw) : Int × List Rw × Int := if 256 < (canon (l ++ [row])).length then (0, [], 3) else (n, canon (l ++ [row]), 0)
theorem co_nilZ {s : Nat} {f : Nat → Nat → PV} : CoP (.sl 0 s true f) (rl []) := CoP.sl rfl (.inr rfl) (fun h => by cases h) fun i j hi _ => absurd hi (Nat.not_lt_zero i)
def fdE (n : Int) (l : List Rw) (a b : Nat) (x : Fd) : Int × List Rw × Int := if agrZ (l.getD a default) (l.getD b default) x.lhs = true then (n, canon (rowsOf l (eqMs (matOf l) a b (membs x.rhs))), 0) else (0, [], 1)
def mvE (n : Int) (l : List Rw) (a b : Nat) (x : Fd) : Int × List Rw × Int := if agrZ (l.getD a default) (l.getD b default) x.lhs = true then addE n l (mixZ (l.getD a default) (l.getD b default) (x.lhs ||| x.rhs)) else (0, [], 1)
theorem tok_get {n : Int} {l : List Rw} (h : tok n l = true) : 0 ≤ n ∧ n ≤ 16 ∧ l.length ≤ 256 ∧ ∀ i, i < l.length → (l.getD i default).length = n.toNat := by
  unfold tok at h
  rw [Bool.and_eq_true, decide_eq_true_iff, decide_eq_true_iff] at h
  obtain ⟨⟨h0, h1, h2⟩, h3⟩ := h
  refine ⟨h0, h1, h2, fun i hi => ?_⟩
  have := h3 i hi
  unfold tokR at this
  rw [Bool.and_eq_true, Bool.and_eq_true, decide_eq_true_iff] at this
  omega
theorem memb_in {n : Int} (h0 : 0 ≤ n) (h1 : n ≤ 16) {x : Fd} (h : inU n x = true) {j : Nat} (hj : j ∈ membs x.rhs) : j < n.toNat := by
  obtain ⟨_, h3⟩ := (inU_iff h0 h1).1 h
  obtain ⟨h4, h5⟩ := mem_membs.1 hj
  have h6 : x.rhs >>> n.toNat = 0 := (within_iff (n := n.toNat) (by omega)).1 (by unfold fullI at h3; rwa [Nat.min_eq_left (by omega)] at h3)
  rcases Nat.lt_or_ge j n.toNat with h | h
  · exact h
  · rw [shr0.1 h6 j h4 h] at h5; cases h5
end Go.Hx
end
section
namespace Go.Hx
open Go.Proofs
set_option maxRecDepth 100000
theorem good68 : goodFn Tryd.prog 68 := ⟨Tryd.f68, Tryd.func68, by kernel_rfl, by kernel_rfl⟩
theorem cAdd (n : Int) (l : List Rw) (row : Rw) (hl : ∀ i, i < l.length → (l.getD i default).length ≤ 17592186044416) (hl2 : l.length ≤ 4294967296) : HPure Tryd.prog 68 [pT n l, pZ row] (prOf [pT (addE n l row).1 (addE n l row).2.1, pI (addE n l row).2.2]) := by
  refine hpure_of (nt := 23) Trydok Tryd.func68 rfl rfl (Nat.le_of_ble_eq_true rfl) ?_; refine hw_seq ?_; refine hw_region (E := TrydE) Trydok ?_; refine rm 0 rfl rfl rfl rfl rfl rfl ?_; refine rm 1 rfl rfl rfl rfl rfl rfl ?_
  refine rq rfl rfl rfl rfl rfl ?_; refine rg_nil ?_; show HW _ _ _ _ _; refine hw_seq ?_; refine hw_region (E := TrydE) Trydok ?_; refine rq rfl rfl rfl rfl rfl ?_
  refine rg_fcall rfl rfl rfl rfl rfl rfl good48 (cCopied n l hl (by omega)) (CoHCL.refl _) trivial rfl rfl ?_; refine rm 2 rfl rfl rfl rfl rfl rfl ?_; refine rs rfl rfl rfl rfl rfl ?_; refine rg_nil ?_; show HW _ _ _ _ _
  refine hw_seq ?_; refine hw_region (E := TrydE) Trydok ?_; (iterate 3 refine rq rfl rfl rfl rfl rfl ?_); refine rm 3 rfl rfl rfl rfl rfl rfl ?_; refine ra 4 true rfl rfl rfl rfl rfl rfl ?_; refine rq rfl rfl rfl rfl rfl ?_
  refine rs rfl rfl rfl rfl rfl ?_; refine rg_nil ?_; show HW _ _ _ _ _; refine hw_seq ?_; refine hw_region (E := TrydE) Trydok ?_; refine rq rfl rfl rfl rfl rfl ?_
  refine rg_fcall rfl rfl rfl rfl rfl rfl good43 ((cSorted n (l ++ [row]) (by simp; omega)).swap 900 901) (⟨⟨CoP.refl _, congrArg (HV.ref 901) (by simp), trivial⟩, trivial⟩) ⟨⟨_, rfl, arr_app1 rfl (CoP.refl _)⟩, trivial⟩ rfl rfl ?_
  refine rs rfl rfl rfl rfl rfl ?_; refine rg_nil ?_; show HW _ _ _ _ _; (iterate 2 refine hw_seq ?_); refine hw_region (E := TrydE) Trydok ?_; (iterate 4 refine rq rfl rfl rfl rfl rfl ?_); refine rg_nil ?_; show HW _ _ _ _ _
  refine hw_cond _ rfl (fun r0 => ?_) (fun r0 => ?_)
  · skip
    have h0 := r0
    have h0 := of_decide_eq_true h0
    try simp only [Int.toNat_natCast] at h0
    refine hw_seq ?_; refine hw_region (E := TrydE) Trydok ?_; refine rq rfl rfl rfl rfl rfl ?_; refine rs rfl rfl rfl rfl rfl ?_; refine rq rfl rfl rfl rfl rfl ?_; refine rg_nil ?_; show HW _ _ _ _ _; refine hw_ret ?_
    refine ⟨.inr rfl, ?_⟩
    have he : addE n l row = (0, [], 3) := if_pos (by omega)
    exact ⟨_, _, _, _, rfl, (by (repeat' apply And.intro) <;> first | trivial | exact Nat.le_of_ble_eq_true rfl | rfl), rfl, (by (repeat' apply And.intro) <;> first | trivial | exact Nat.le_of_ble_eq_true rfl | rfl), by rw [he]; exact ⟨CoC.agg ⟨CoP.refl _, co_nilZ, trivial⟩, CoC.refl _, trivial⟩⟩
  · skip
    have h0 := r0
    have h0 := of_decide_eq_false h0
    try simp only [Int.toNat_natCast] at h0
    refine hw_skip ?_; show HW _ _ _ _ _; refine hw_seq ?_; refine hw_region (E := TrydE) Trydok ?_; refine rq rfl rfl rfl rfl rfl ?_; refine rs rfl rfl rfl rfl rfl ?_; refine rq rfl rfl rfl rfl rfl ?_; refine rg_nil ?_
    show HW _ _ _ _ _; refine hw_ret ?_; refine ⟨.inr rfl, ?_⟩
    have he : addE n l row = (n, canon (l ++ [row]), 0) := if_neg (by omega)
    exact ⟨_, _, _, _, rfl, (by (repeat' apply And.intro) <;> first | trivial | exact Nat.le_of_ble_eq_true rfl | rfl), rfl, (by (repeat' apply And.intro) <;> first | trivial | exact Nat.le_of_ble_eq_true rfl | rfl), by rw [he]; exact CoL.refl _⟩
theorem good50 : goodFn Tryd.prog 50 := ⟨Tryd.f50, Tryd.func50, by kernel_rfl, by kernel_rfl⟩
theorem cApplyF (n : Int) (l : List Rw) (p m : List Fd) (i a b : Nat) (hT : tok n l = true) (ha : a < l.length) (hb : b < l.length) (hi : i < p.length) (hu : inU n (p.getD i default) = true) : HPure Tryd.prog 50 [pT n l, pP (fdl p), pP (fdl m), .agg [.raw (.bool false), .raw (.int .i64 (i : Int)), .raw (.int .i64 (a : Int)), .raw (.int .i64 (b : Int))]] (prOf [pT (fdE n l a b (p.getD i default)).1 (fdE n l a b (p.getD i default)).2.1, pI (fdE n l a b (p.getD i default)).2.2]) := by
  refine hpure_of (nt := 75) Trydok Tryd.func50 rfl rfl (Nat.le_of_ble_eq_true rfl) ?_; refine hw_seq ?_
  obtain ⟨hn0, hn16, hl256, hrow⟩ := tok_get hT
  have hra := hrow a ha
  have hrb := hrow b hb
  have hbig : ∀ i, i < l.length → (l.getD i default).length ≤ 17592186044416 := fun i hi => by rw [hrow i hi]; omega
  refine hw_region (E := TrydE) Trydok ?_; refine rm 0 rfl rfl rfl rfl rfl rfl ?_; refine rm 1 rfl rfl rfl rfl rfl rfl ?_; refine rm 2 rfl rfl rfl rfl rfl rfl ?_; refine rq rfl rfl rfl rfl rfl ?_; refine rg_nil ?_; show HW _ _ _ _ _
  refine hw_seq ?_; refine hw_draw (E := TrydE) Trydok Trydmixed [0, 1, 2, 3, 4, 5, 6, 7, 8, 9, 10, 11, 12, 13] ?_; (iterate 14 refine rq rfl rfl rfl rfl rfl ?_); refine rg_nil ?_; refine ⟨by kernel_rfl, ?_⟩; show HW _ _ _ _ _
  (iterate 2 refine hw_seq ?_); refine hw_region (E := TrydE) Trydok ?_; (iterate 3 refine rq rfl rfl rfl rfl rfl ?_); refine rg_nil ?_; show HW _ _ _ _ _; refine hw_cond _ rfl (fun _ => ?_) (fun e => by cases e)
  (iterate 2 refine hw_seq ?_); refine hw_region (E := TrydE) Trydok ?_; (iterate 8 refine rq rfl rfl rfl rfl rfl ?_)
  refine rc rfl rfl rfl rfl rfl rfl good65 (cAgree (l.getD a default) (l.getD b default) (p.getD i default).lhs (by omega) (by omega)) (CoL.refl _) rfl rfl ?_; refine rq rfl rfl rfl rfl rfl ?_; refine rg_nil ?_; show HW _ _ _ _ _
  refine hw_cond _ rfl (fun r0 => ?_) (fun r0 => ?_)
  · skip
    have h0 := r0
    have h0 := not_t h0
    refine hw_seq ?_; refine hw_region (E := TrydE) Trydok ?_; refine rq rfl rfl rfl rfl rfl ?_; refine rs rfl rfl rfl rfl rfl ?_; refine rq rfl rfl rfl rfl rfl ?_; refine rg_nil ?_; show HW _ _ _ _ _; refine hw_ret ?_
    refine ⟨.inr rfl, ?_⟩
    have he : fdE n l a b (p.getD i default) = (0, [], 1) := if_neg (by simp_all)
    exact ⟨_, _, _, _, rfl, (by (repeat' apply And.intro) <;> first | trivial | exact Nat.le_of_ble_eq_true rfl | rfl), rfl, (by (repeat' apply And.intro) <;> first | trivial | exact Nat.le_of_ble_eq_true rfl | rfl), by rw [he]; exact ⟨CoC.agg ⟨CoP.refl _, co_nilZ, trivial⟩, CoC.refl _, trivial⟩⟩
  · skip
    have h0 := r0
    have h0 := not_f h0
    refine hw_skip ?_; show HW _ _ _ _ _; refine hw_seq ?_; refine hw_draw (E := TrydE) Trydok Trydmixed [0, 1, 2, 3, 4, 5, 6, 7, 8, 9, 10, 11, 12, 13] ?_; (iterate 11 refine rq rfl rfl rfl rfl rfl ?_)
    refine rc rfl rfl rfl rfl rfl rfl good67 (cEquate n l (p.getD i default).rhs a b hbig (by omega) ha hb (fun j hj i hi => by rw [hrow i hi]; exact memb_in hn0 hn16 hu hj)) (CoL.refl _) rfl rfl ?_; refine rs rfl rfl rfl rfl rfl ?_
    refine rq rfl rfl rfl rfl rfl ?_; refine rg_nil ?_; refine ⟨by kernel_rfl, ?_⟩; show HW _ _ _ _ _; refine hw_ret ?_; refine ⟨.inr rfl, ?_⟩
    have he : fdE n l a b (p.getD i default) = (n, canon (rowsOf l (eqMs (matOf l) a b (membs (p.getD i default).rhs))), 0) := if_pos (by simp_all)
    exact ⟨_, _, _, _, rfl, (by (repeat' apply And.intro) <;> first | trivial | exact Nat.le_of_ble_eq_true rfl | rfl), rfl, (by (repeat' apply And.intro) <;> first | trivial | exact Nat.le_of_ble_eq_true rfl | rfl), by rw [he]; exact CoL.refl _⟩
theorem cApplyM (n : Int) (l : List Rw) (p m : List Fd) (i a b : Nat) (hT : tok n l = true) (ha : a < l.length) (hb : b < l.length) (hi : i < m.length) : HPure Tryd.prog 50 [pT n l, pP (fdl p), pP (fdl m), .agg [.raw (.bool true), .raw (.int .i64 (i : Int)), .raw (.int .i64 (a : Int)), .raw (.int .i64 (b : Int))]] (prOf [pT (mvE n l a b (m.getD i default)).1 (mvE n l a b (m.getD i default)).2.1, pI (mvE n l a b (m.getD i default)).2.2]) := by
  refine hpure_of (nt := 75) Trydok Tryd.func50 rfl rfl (Nat.le_of_ble_eq_true rfl) ?_; refine hw_seq ?_
  obtain ⟨hn0, hn16, hl256, hrow⟩ := tok_get hT
  have hra := hrow a ha
  have hrb := hrow b hb
  have hbig : ∀ i, i < l.length → (l.getD i default).length ≤ 17592186044416 := fun i hi => by rw [hrow i hi]; omega
  refine hw_region (E := TrydE) Trydok ?_; refine rm 0 rfl rfl rfl rfl rfl rfl ?_; refine rm 1 rfl rfl rfl rfl rfl rfl ?_; refine rm 2 rfl rfl rfl rfl rfl rfl ?_; refine rq rfl rfl rfl rfl rfl ?_; refine rg_nil ?_; show HW _ _ _ _ _
  refine hw_seq ?_; refine hw_draw (E := TrydE) Trydok Trydmixed [0, 1, 2, 3, 4, 5, 6, 7, 8, 9, 10, 11, 12, 13] ?_; (iterate 14 refine rq rfl rfl rfl rfl rfl ?_); refine rg_nil ?_; refine ⟨by kernel_rfl, ?_⟩; show HW _ _ _ _ _
  (iterate 2 refine hw_seq ?_); refine hw_region (E := TrydE) Trydok ?_; (iterate 3 refine rq rfl rfl rfl rfl rfl ?_); refine rg_nil ?_; show HW _ _ _ _ _; refine hw_cond _ rfl (fun e => by cases e) (fun _ => ?_); refine hw_skip ?_
  show HW _ _ _ _ _; refine hw_seq ?_; refine hw_region (E := TrydE) Trydok ?_; (iterate 5 refine rq rfl rfl rfl rfl rfl ?_); refine rm 3 rfl rfl rfl rfl rfl rfl ?_; refine rs rfl rfl rfl rfl rfl ?_; refine rg_nil ?_
  show HW _ _ _ _ _; (iterate 2 refine hw_seq ?_); refine hw_region (E := TrydE) Trydok ?_; (iterate 4 refine rq rfl rfl rfl rfl rfl ?_)
  refine rc rfl rfl rfl rfl rfl rfl good65 (cAgree (l.getD a default) (l.getD b default) (m.getD i default).lhs (by omega) (by omega)) (CoL.refl _) rfl rfl ?_; refine rq rfl rfl rfl rfl rfl ?_; refine rg_nil ?_; show HW _ _ _ _ _
  refine hw_cond _ rfl (fun r0 => ?_) (fun r0 => ?_)
  · skip
    have h0 := r0
    have h0 := not_t h0
    refine hw_seq ?_; refine hw_region (E := TrydE) Trydok ?_; refine rq rfl rfl rfl rfl rfl ?_; refine rs rfl rfl rfl rfl rfl ?_; refine rq rfl rfl rfl rfl rfl ?_; refine rg_nil ?_; show HW _ _ _ _ _; refine hw_ret ?_
    refine ⟨.inr rfl, ?_⟩
    have he : mvE n l a b (m.getD i default) = (0, [], 1) := if_neg (by simp_all)
    exact ⟨_, _, _, _, rfl, (by (repeat' apply And.intro) <;> first | trivial | exact Nat.le_of_ble_eq_true rfl | rfl), rfl, (by (repeat' apply And.intro) <;> first | trivial | exact Nat.le_of_ble_eq_true rfl | rfl), by rw [he]; exact ⟨CoC.agg ⟨CoP.refl _, co_nilZ, trivial⟩, CoC.refl _, trivial⟩⟩
  · skip
    have h0 := r0
    have h0 := not_f h0
    refine hw_skip ?_; show HW _ _ _ _ _; refine hw_seq ?_; refine hw_draw (E := TrydE) Trydok Trydmixed [0, 1, 2, 3, 4, 5, 6, 7, 8, 9, 10, 11, 12, 13] ?_; (iterate 8 refine rq rfl rfl rfl rfl rfl ?_)
    refine rc rfl rfl rfl rfl rfl rfl good66 (cMixed (l.getD a default) (l.getD b default) ((m.getD i default).lhs ||| (m.getD i default).rhs) (by omega) (by omega)) (⟨CoC.refl _, CoC.refl _, cci (by rw [bOr]; rfl), trivial⟩) rfl rfl ?_
    refine rc rfl rfl rfl rfl rfl rfl good68 (cAdd n l (mixZ (l.getD a default) (l.getD b default) ((m.getD i default).lhs ||| (m.getD i default).rhs)) hbig (by omega)) (CoL.refl _) rfl rfl ?_
    (iterate 2 refine rq rfl rfl rfl rfl rfl ?_); refine rs rfl rfl rfl rfl rfl ?_; refine rq rfl rfl rfl rfl rfl ?_; refine rg_nil ?_; refine ⟨by kernel_rfl, ?_⟩; show HW _ _ _ _ _; refine hw_ret ?_; refine ⟨.inr rfl, ?_⟩
    have he : mvE n l a b (m.getD i default) = addE n l (mixZ (l.getD a default) (l.getD b default) ((m.getD i default).lhs ||| (m.getD i default).rhs)) := if_pos (by simp_all)
    exact ⟨_, _, _, _, rfl, (by (repeat' apply And.intro) <;> first | trivial | exact Nat.le_of_ble_eq_true rfl | rfl), rfl, (by (repeat' apply And.intro) <;> first | trivial | exact Nat.le_of_ble_eq_true rfl | rfl), by rw [he]; exact CoL.refl _⟩
end Go.Hx
end
section
namespace Go.Hx
def firstF (P : Nat → Nat → Nat → Bool) (I L : Nat) : Option (Nat × Nat × Nat) :=
  (List.range I).findSome? fun i => (List.range L).findSome? fun a => ((List.range L).find? fun b => P i a b).map fun b => (i, a, b)
theorem fs_some {α : Type} {f : Nat → Option α} : ∀ {n k : Nat} {x : α}, k < n → f k = some x → (∀ j, j < k → f j = none) → (List.range n).findSome? f = some x
  | n + 1, k, x, hk, h, hb => by
    rw [List.range_succ, List.findSome?_append]
    by_cases e : k < n
    · rw [fs_some e h hb]; rfl
    · obtain rfl : k = n := by omega
      have : (List.range k).findSome? f = none := by
        rw [List.findSome?_eq_none_iff]
        intro j hj
        exact hb j (List.mem_range.1 hj)
      rw [this]
      simp [h]
theorem fs_none {α : Type} {f : Nat → Option α} {n : Nat} (h : ∀ j, j < n → f j = none) : (List.range n).findSome? f = none := by
  rw [List.findSome?_eq_none_iff]
  intro j hj
  exact h j (List.mem_range.1 hj)
theorem fd_none {p : Nat → Bool} {n : Nat} (h : ∀ j, j < n → p j = false) : (List.range n).find? p = none := by
  rw [List.find?_eq_none]
  intro j hj
  rw [h j (List.mem_range.1 hj)]
  decide
theorem fd_some {p : Nat → Bool} {n k : Nat} (hk : k < n) (h : p k = true) (hb : ∀ j, j < k → p j = false) : (List.range n).find? p = some k := by
  induction n with
  | zero => omega
  | succ n ih =>
    rw [List.range_succ, List.find?_append]
    by_cases e : k < n
    · rw [ih e]; rfl
    · obtain rfl : k = n := by omega
      rw [fd_none hb]
      simp [h]
theorem firstF_some {P : Nat → Nat → Nat → Bool} {I L i a b : Nat} (hi : i < I) (ha : a < L) (hb : b < L) (h : P i a b = true) (h1 : ∀ i', i' < i → ∀ a', a' < L → ∀ b', b' < L → P i' a' b' = false) (h2 : ∀ a', a' < a → ∀ b', b' < L → P i a' b' = false) (h3 : ∀ b', b' < b → P i a b' = false) :
    firstF P I L = some (i, a, b) := by
  refine fs_some hi ?_ fun j hj => fs_none fun a' ha' => by rw [fd_none fun b' hb' => h1 j hj a' ha' b' hb']; rfl
  refine fs_some ha ?_ fun a' ha' => by rw [fd_none fun b' hb' => h2 a' ha' b' hb']; rfl
  rw [fd_some hb h h3]
  rfl
theorem firstF_none {P : Nat → Nat → Nat → Bool} {I L : Nat} (h : ∀ i', i' < I → ∀ a', a' < L → ∀ b', b' < L → P i' a' b' = false) : firstF P I L = none :=
  fs_none fun i hi => fs_none fun a ha => by rw [fd_none fun b hb => h i hi a ha b hb]; rfl
def stepF (l : List Rw) (x : Fd) (a b : Nat) : Bool := agrZ (l.getD a default) (l.getD b default) x.lhs && !agrZ (l.getD a default) (l.getD b default) x.rhs
def stepM (l : List Rw) (x : Fd) (a b : Nat) : Bool := agrZ (l.getD a default) (l.getD b default) x.lhs && !(l.any fun r => decide (r = mixZ (l.getD a default) (l.getD b default) (x.lhs ||| x.rhs)))
section
variable {l : List Rw} {x : Fd} {a b : Nat}
theorem stepF_t (h : agrZ (l.getD a default) (l.getD b default) x.lhs = true) (h2 : agrZ (l.getD a default) (l.getD b default) x.rhs = false) : stepF l x a b = true := by unfold stepF; rw [h, h2]; rfl
theorem stepF_f1 (h : agrZ (l.getD a default) (l.getD b default) x.lhs = false) : stepF l x a b = false := by unfold stepF; rw [h]; rfl
theorem stepF_f2 (h : agrZ (l.getD a default) (l.getD b default) x.rhs = true) : stepF l x a b = false := by unfold stepF; rw [h]; simp
theorem stepM_t (h : agrZ (l.getD a default) (l.getD b default) x.lhs = true) (h2 : (l.any fun r => decide (r = mixZ (l.getD a default) (l.getD b default) (x.lhs ||| x.rhs))) = false) : stepM l x a b = true := by unfold stepM; rw [h, h2]; rfl
theorem stepM_f1 (h : agrZ (l.getD a default) (l.getD b default) x.lhs = false) : stepM l x a b = false := by unfold stepM; rw [h]; rfl
theorem stepM_f2 (h : (l.any fun r => decide (r = mixZ (l.getD a default) (l.getD b default) (x.lhs ||| x.rhs))) = true) : stepM l x a b = false := by unfold stepM; rw [h]; simp
end
abbrev St := Bool × Nat × Nat × Nat
abbrev St.pc (s : St) : PC := .agg [.raw (.bool s.1), .raw (.int .i64 (s.2.1 : Int)), .raw (.int .i64 (s.2.2.1 : Int)), .raw (.int .i64 (s.2.2.2 : Int))]
def nextE (l : List Rw) (p m : List Fd) : Option St :=
  match firstF (fun i a b => stepF l (p.getD i default) a b) p.length l.length with
  | some x => some (false, x)
  | none => (firstF (fun i a b => stepM l (m.getD i default) a b) m.length l.length).map fun x => (true, x)
theorem nextE_f {l : List Rw} {p m : List Fd} {x : Nat × Nat × Nat} (h : firstF (fun i a b => stepF l (p.getD i default) a b) p.length l.length = some x) : nextE l p m = some (false, x) := by unfold nextE; rw [h]
theorem nextE_m {l : List Rw} {p m : List Fd} {x : Nat × Nat × Nat} (h0 : firstF (fun i a b => stepF l (p.getD i default) a b) p.length l.length = none) (h : firstF (fun i a b => stepM l (m.getD i default) a b) m.length l.length = some x) : nextE l p m = some (true, x) := by unfold nextE; rw [h0, h]; rfl
theorem nextE_n {l : List Rw} {p m : List Fd} (h0 : firstF (fun i a b => stepF l (p.getD i default) a b) p.length l.length = none) (h : firstF (fun i a b => stepM l (m.getD i default) a b) m.length l.length = none) : nextE l p m = none := by unfold nextE; rw [h0, h]; rfl
end Go.Hx
end
