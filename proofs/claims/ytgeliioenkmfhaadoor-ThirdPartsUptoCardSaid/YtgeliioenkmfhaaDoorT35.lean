/- A part of the proof: lemmas for the theorem of this claim, merged by a program of ours out of Cs43, V38, Cs44, V39. -/
import Derived.Test.YtgeliioenkmfhaaDoorT34
set_option linter.all false
section
namespace Go.Hx
open Go.Proofs
def keyAt (n : Int) (l : List Fd) (i : Nat) : Bool := ((synE n l).take i).any (skey n l)
section
variable {n : Int} {l : List Fd}
theorem keyAt_succ {i : Nat} (hi : i < (synE n l).length) : keyAt n l (i + 1) = (keyAt n l i || skey n l ((synE n l).getD i default)) := by
  unfold keyAt
  rw [take_snoc hi, List.any_append]
  simp
theorem key_1 {i : Nat} (hi : i < (synE n l).length) (h : keyAt n l i = true) : true = keyAt n l (i + 1) := by rw [keyAt_succ hi, h]; rfl
theorem key_2 {i : Nat} (hi : i < (synE n l).length) (h : keyAt n l i = false) : skey n l ((synE n l).getD i default) = keyAt n l (i + 1) := by rw [keyAt_succ hi, h]; rfl
theorem key_3 {i : Nat} (hi : i < (synE n l).length) : (bif keyAt n l i then true else skey n l ((synE n l).getD i default)) = keyAt n l (i + 1) := by rw [keyAt_succ hi]; cases keyAt n l i <;> rfl
theorem keyAt_end (h : vErr n l = 0) : keyAt n l (synE n l).length = true := by
  obtain ⟨x, hx, hk⟩ := synE_key h
  unfold keyAt
  rw [List.take_length]
  exact List.any_eq_true.2 ⟨x, hx, hk⟩
theorem all_end (h : vErr n l = 0) : asI (orL ((synE n l).take (synE n l).length)) = asI (fullI n) := by rw [List.take_length, synE_all h]
theorem synE_len (n : Int) (l : List Fd) : (synE n l).length ≤ 4096 := by
  unfold synE
  split
  · exact Nat.le_trans (maxl_len _) (synP_len n l)
  · simp
end
section
variable {d : Dps}
theorem cSynth7 (hM : ∀ k : List Fd, k.length ≤ 16777216 → HPure Tryd.prog 97 [pP (fdl k)] (prOf [pP (fdl (mrgS k))])) (h : d.l.length ≤ 6) : HPure Tryd.prog 24 [pI d.num, pP (fdl d.fds)] (prOf [pP (asl (synE d.num d.fds)), pI 0]) := by
  have hh := cTSynth hM d.num d.fds
  rw [dps_ok h] at hh
  exact hh
theorem cMax7 (h : d.l.length ≤ 6) : HPure Tryd.prog 29 [pP (asl (synE d.num d.fds))] (prOf [pP (asl (synE d.num d.fds))]) := by
  have hh := cRMaximal (synE d.num d.fds) (Nat.le_trans (synE_len _ _) (by omega))
  rw [synE_max (dps_ok h)] at hh
  exact hh
theorem cSame7 : HPure Tryd.prog 26 [pP (asl (synE d.num d.fds)), pP (asl (synE d.num d.fds))] (prOf [pB true]) := by
  have hh := cSameS (synE d.num d.fds) (synE d.num d.fds)
  rw [decide_eq_true rfl] at hh
  exact hh
end
end Go.Hx
end
section
namespace Go.Hx
open Go.Proofs
set_option maxRecDepth 100000
theorem cLaw7 (hM : ∀ k : List Fd, k.length ≤ 16777216 → HPure Tryd.prog 97 [pP (fdl k)] (prOf [pP (fdl (mrgS k))])) (d : Dps) (hl : d.l.length ≤ 16777216) : HPure Tryd.prog 7 [d.pc] (prOf [pB true]) := by
  refine hpure_of (nt := 65) Trydok Tryd.func7 rfl rfl (Nat.le_of_ble_eq_true rfl) ?_; refine hw_seq ?_; refine hw_region (E := TrydE) Trydok ?_; refine rm 0 rfl rfl rfl rfl rfl rfl ?_; refine rq rfl rfl rfl rfl rfl ?_
  refine rg_nil ?_; show HW _ _ _ _ _; refine hw_seq ?_; refine hw_region (E := TrydE) Trydok ?_; refine rq rfl rfl rfl rfl rfl ?_; refine rc rfl rfl rfl rfl rfl rfl good23 (cOf d hl) (CoL.refl _) rfl rfl ?_
  (iterate 7 refine rq rfl rfl rfl rfl rfl ?_); refine rg_nil ?_; show HW _ _ _ _ _; (iterate 2 refine hw_seq ?_); refine hw_region (E := TrydE) Trydok ?_
  refine rc rfl rfl rfl rfl rfl rfl good12 (cAwake3 hM) (CoL.refl _) rfl rfl ?_; (iterate 5 refine rq rfl rfl rfl rfl rfl ?_); refine rg_nil ?_; show HW _ _ _ _ _; refine hw_cond _ rfl (fun r0 => ?_) (fun r0 => ?_)
  · skip
    have h0 := r0
    have h0 := not_t h0
    refine hw_seq ?_; refine hw_region (E := TrydE) Trydok ?_; refine rc rfl rfl rfl rfl rfl rfl good12 (cAwake3 hM) (CoL.refl _) rfl rfl ?_; refine rq rfl rfl rfl rfl rfl ?_; refine rg_nil ?_; show HW _ _ _ _ _; refine hw_ret ?_
    refine ⟨.inr rfl, ?_⟩
    exact ⟨_, _, _, _, rfl, (by (repeat' apply And.intro) <;> first | trivial | exact Nat.le_of_ble_eq_true rfl | rfl), rfl, (by (repeat' apply And.intro) <;> first | trivial | exact Nat.le_of_ble_eq_true rfl | rfl), CoL.refl _⟩
  · skip
    have h0 := r0
    have h0 := not_f h0
    have hd : d.l.length ≤ 6 := of_decide_eq_true h0
    refine hw_skip ?_; show HW _ _ _ _ _; refine hw_seq ?_; refine hw_region (E := TrydE) Trydok ?_; (iterate 2 refine rq rfl rfl rfl rfl rfl ?_); refine rc rfl rfl rfl rfl rfl rfl good24 (cSynth7 hM hd) (CoL.refl _) rfl rfl ?_
    (iterate 5 refine rq rfl rfl rfl rfl rfl ?_); refine rg_nil ?_; show HW _ _ _ _ _; refine hw_seq ?_; refine hw_region (E := TrydE) Trydok ?_; refine rq rfl rfl rfl rfl rfl ?_; refine rg_nil ?_; show HW _ _ _ _ _
    refine hw_seq ?_; refine hw_region (E := TrydE) Trydok ?_; refine rq rfl rfl rfl rfl rfl ?_; refine rg_nil ?_; show HW _ _ _ _ _; (iterate 2 refine hw_seq ?_)
    have hel := synE_len d.num d.fds
    refine hw_region (E := TrydE) Trydok ?_; (iterate 3 refine rq rfl rfl rfl rfl rfl ?_); refine rg_nil ?_; show HW _ _ _ _ _; refine hw_block ?_
    refine hw_loopK (ι := Nat) ⟨[(3, some _), (4, some _), (6, some _), (7, some _), (31, some _), (32, some _)], []⟩ ⟨⟨⟨_, rfl, CoR.refl _⟩, ⟨_, rfl, CoR.refl _⟩, ⟨_, rfl, CoR.refl _⟩, ⟨_, rfl, CoR.refl _⟩, ⟨_, rfl, CoR.refl _⟩, ⟨_, rfl, CoR.refl _⟩, trivial⟩, trivial⟩ (fun i => ⟨[(8, some (vA (orL ((synE d.num d.fds).take i)))), (9, some (vB (keyAt d.num d.fds i))), (33, some (vI i))], []⟩) (fun i => i ≤ (synE d.num d.fds).length) (fun i => (synE d.num d.fds).length - i) (0) (Nat.zero_le _) ⟨⟨⟨_, rfl, (by first | exact CoR.refl _ | exact coi (by omega) | exact cob (by simp_all))⟩, ⟨_, rfl, (cob rfl)⟩, ⟨_, rfl, (by first | exact CoR.refl _ | exact coi (by omega) | exact cob (by simp_all))⟩, trivial⟩, trivial⟩ ?_
    rintro i hi
    refine hw_seq ?_; refine hw_region (E := TrydE) Trydok ?_; refine rq rfl rfl rfl rfl rfl ?_; refine rg_nil ?_; show HW _ _ _ _ _; refine hw_seq ?_; refine hw_cond _ rfl (fun r1 => ?_) (fun r1 => ?_)
    · skip
      have h1 := r1
      have h1 := of_decide_eq_true h1
      try simp only [Int.toNat_natCast] at h1
      refine hw_skip ?_; show HW _ _ _ _ _; refine hw_seq ?_; refine hw_block ?_; refine hw_seq ?_; refine hw_region (E := TrydE) Trydok ?_; (iterate 3 refine rq rfl rfl rfl rfl rfl ?_); refine rg_nil ?_; show HW _ _ _ _ _
      refine hw_seq ?_; refine hw_region (E := TrydE) Trydok ?_; (iterate 4 refine rq rfl rfl rfl rfl rfl ?_); refine rg_nil ?_; show HW _ _ _ _ _; refine hw_region (E := TrydE) Trydok ?_
      (iterate 2 refine rq rfl rfl rfl rfl rfl ?_); refine rsplit rfl rfl (fun r2 => ?_) (fun r2 => ?_)
      · skip
        have h2 := r2
        (iterate 4 refine rk rfl rfl rfl (gtf r2) ?_); refine rq rfl rfl rfl rfl rfl ?_ (hp := r2); refine rq rfl rfl rfl rfl rfl ?_; refine rg_nil ?_; show HW _ _ _ _ _; refine hw_region (E := TrydE) Trydok ?_
        (iterate 2 refine rq rfl rfl rfl rfl rfl ?_); refine rg_nil ?_; refine ⟨i + 1, ?_, ?_, ?_⟩
        · show i + 1 ≤ _; omega
        · first | omega | (dsimp only; omega)
        · exact ⟨⟨⟨_, rfl, (cor_i (by rw [bOr, orL_take (by omega)]; rfl))⟩, ⟨_, rfl, (cob (by first | exact key_1 (n := d.num) (l := d.fds) (i := i) (by omega) (by assumption) | exact key_2 (n := d.num) (l := d.fds) (i := i) (by omega) (by assumption) | exact key_3 (n := d.num) (l := d.fds) (i := i) (by omega)))⟩, ⟨_, rfl, (by first | exact CoR.refl _ | exact coi (by omega) | exact cob (by simp_all))⟩, ⟨_, rfl, CoR.refl _⟩, ⟨_, rfl, CoR.refl _⟩, ⟨_, rfl, CoR.refl _⟩, ⟨_, rfl, CoR.refl _⟩, ⟨_, rfl, CoR.refl _⟩, ⟨_, rfl, CoR.refl _⟩, trivial⟩, trivial⟩
      · skip
        have h2 := r2
        (iterate 3 refine rq rfl rfl rfl rfl (gff r2) ?_); refine rc rfl rfl rfl rfl rfl rfl good27 (cRSkey d.num d.fds ((synE d.num d.fds).getD i default)) (CoL.refl _) rfl (gff r2) ?_; (iterate 2 refine rq rfl rfl rfl rfl rfl ?_)
        refine rg_nil ?_; show HW _ _ _ _ _; refine hw_region (E := TrydE) Trydok ?_; (iterate 2 refine rq rfl rfl rfl rfl rfl ?_); refine rg_nil ?_; refine ⟨i + 1, ?_, ?_, ?_⟩
        · show i + 1 ≤ _; omega
        · first | omega | (dsimp only; omega)
        · exact ⟨⟨⟨_, rfl, (cor_i (by rw [bOr, orL_take (by omega)]; rfl))⟩, ⟨_, rfl, (cob (by first | exact key_1 (n := d.num) (l := d.fds) (i := i) (by omega) (by assumption) | exact key_2 (n := d.num) (l := d.fds) (i := i) (by omega) (by assumption) | exact key_3 (n := d.num) (l := d.fds) (i := i) (by omega)))⟩, ⟨_, rfl, (by first | exact CoR.refl _ | exact coi (by omega) | exact cob (by simp_all))⟩, ⟨_, rfl, CoR.refl _⟩, ⟨_, rfl, CoR.refl _⟩, ⟨_, rfl, CoR.refl _⟩, ⟨_, rfl, CoR.refl _⟩, ⟨_, rfl, CoR.refl _⟩, ⟨_, rfl, CoR.refl _⟩, trivial⟩, trivial⟩
    · skip
      have h1 := r1
      have h1 := of_decide_eq_false h1
      try simp only [Int.toNat_natCast] at h1
      obtain rfl : i = (synE d.num d.fds).length := by omega
      have hke := keyAt_end (dps_ok hd)
      have hae := all_end (dps_ok hd)
      refine hw_exit ?_; show HW _ _ _ _ _; refine hw_seq ?_; refine hw_region (E := TrydE) Trydok ?_; (iterate 6 refine rq rfl rfl rfl rfl rfl ?_); refine rsplit rfl rfl (fun r3 => ?_) (fun r3 => ?_)
      · skip
        have h3 := r3
        (iterate 2 refine rq rfl rfl rfl rfl (gtt r3) ?_); refine rc rfl rfl rfl rfl rfl rfl good28 (cRFull d.num) (CoL.refl _) rfl (gtt r3) ?_; refine rq rfl rfl rfl rfl (gtt r3) ?_; (iterate 2 refine rq rfl rfl rfl rfl rfl ?_)
        refine rsplit rfl rfl (fun r4 => ?_) (fun r4 => ?_)
        · skip
          have h4 := r4
          have h4 := bif_t r3 h4
          have h4 := of_decide_eq_true h4
          try simp only [Int.toNat_natCast] at h4
          refine rq rfl rfl rfl rfl (gtt r4) ?_; refine rc rfl rfl rfl rfl rfl rfl good29 (cMax7 hd) (CoL.refl _) rfl (gtt r4) ?_; refine rq rfl rfl rfl rfl (gtt r4) ?_
          refine rc rfl rfl rfl rfl rfl rfl good26 (cSame7) (CoL.refl _) rfl (gtt r4) ?_; (iterate 2 refine rq rfl rfl rfl rfl rfl ?_); refine rg_nil ?_; show HW _ _ _ _ _; refine hw_ret ?_; refine ⟨.inr rfl, ?_⟩
          exact ⟨_, _, _, _, rfl, (by (repeat' apply And.intro) <;> first | trivial | exact Nat.le_of_ble_eq_true rfl | rfl), rfl, (by (repeat' apply And.intro) <;> first | trivial | exact Nat.le_of_ble_eq_true rfl | rfl), ⟨ccb (by simp_all), trivial⟩⟩
        · skip
          have h4 := r4
          have h4 := bif_t r3 h4
          have h4 := of_decide_eq_false h4
          try simp only [Int.toNat_natCast] at h4
          (iterate 4 refine rk rfl rfl rfl (gft r4) ?_); refine rq rfl rfl rfl rfl rfl ?_ (hp := r4); refine rq rfl rfl rfl rfl rfl ?_; refine rg_nil ?_; show HW _ _ _ _ _; refine hw_ret ?_; refine ⟨.inr rfl, ?_⟩
          exact ⟨_, _, _, _, rfl, (by (repeat' apply And.intro) <;> first | trivial | exact Nat.le_of_ble_eq_true rfl | rfl), rfl, (by (repeat' apply And.intro) <;> first | trivial | exact Nat.le_of_ble_eq_true rfl | rfl), ⟨ccb (by simp_all), trivial⟩⟩
      · skip
        have h3 := r3
        (iterate 4 refine rk rfl rfl rfl (gft r3) ?_); refine rq rfl rfl rfl rfl rfl ?_ (hp := r3); refine rq rfl rfl rfl rfl rfl ?_; (iterate 4 refine rk rfl rfl rfl rfl ?_); (iterate 2 refine rq rfl rfl rfl rfl rfl ?_)
        refine rg_nil ?_; show HW _ _ _ _ _; refine hw_ret ?_; refine ⟨.inr rfl, ?_⟩
        exact ⟨_, _, _, _, rfl, (by (repeat' apply And.intro) <;> first | trivial | exact Nat.le_of_ble_eq_true rfl | rfl), rfl, (by (repeat' apply And.intro) <;> first | trivial | exact Nat.le_of_ble_eq_true rfl | rfl), ⟨ccb (by simp_all), trivial⟩⟩
end Go.Hx
end
section
namespace Go.Hx
def sideI (l : List Fd) (z : Int) : Option PV := match l.find? (fun f => decide (asI f.lhs = z)) with | some f => some (asC (mgR l f.lhs)) | none => none
def sideF (l : List Fd) : MK → Option PV
  | .i .u32 z => sideI l z
  | _ => none
theorem wfA (s : AS) : (Lit.int .u32 (asI s)).wf = true := by
  have h1 := asI_lt s
  have h2 := asI_nn s
  have e1 : IntKind.min .u32 = 0 := by decide
  have e2 : IntKind.max .u32 = 4294967295 := by decide
  simp only [Lit.wf, e1, e2, Bool.and_eq_true, decide_eq_true_eq]
  omega
theorem mgR_none {l : List Fd} {s : AS} (h : ∀ f ∈ l, ¬ f.lhs = s) : mgR l s = 0 := by
  unfold mgR
  rw [List.filter_eq_nil_iff.2 fun f hf => by simpa using h f hf]
  rfl
theorem sideI_some {l : List Fd} {s : AS} {f : Fd} (h : l.find? (fun f => decide (asI f.lhs = asI s)) = some f) : f.lhs = s := by
  have := List.find?_some h
  exact asI_inj.1 (of_decide_eq_true this)
theorem sideF_look (l : List Fd) (s : AS) : mapAt (sideF l) (.i .u32 (asI s)) (.int .u32 0) = asC (mgR l s) := by
  show (match sideI l (asI s) with | some y => y | none => rawP (.int .u32 0)) = _
  unfold sideI
  cases h : l.find? (fun f => decide (asI f.lhs = asI s)) with
  | some f =>
    have := sideI_some h
    subst this
    rfl
  | none =>
    rw [mgR_none fun f hf e => by
      have := List.find?_eq_none.1 h f hf
      rw [e] at this
      exact this (decide_eq_true rfl)]
    rfl
theorem sideF_nil (m : MK) : CoM none (sideF [] m) := by
  cases m with
  | i q z => cases q <;> exact CoM.refl _
  | s b => exact CoM.refl _
theorem sideI_put {l : List Fd} {i : Nat} (hi : i < l.length) (z : Int) : (if z = asI (l.getD i default).lhs then some (PV.raw (.int .u32 (bitV .or .u32 (asI (mgR (l.take i) (l.getD i default).lhs)) (asI (l.getD i default).rhs)))) else sideI (l.take i) z) = sideI (l.take (i + 1)) z := by
  unfold sideI
  by_cases hz : z = asI (l.getD i default).lhs
  · subst hz
    rw [if_pos rfl, mg_t hi rfl]
    cases h : (l.take (i + 1)).find? (fun f => decide (asI f.lhs = asI (l.getD i default).lhs)) with
    | some f =>
      have := sideI_some h
      rw [← this]
    | none =>
      have := List.find?_eq_none.1 h (l.getD i default) (by rw [take_snoc hi]; simp)
      exact absurd (decide_eq_true rfl) this
  · rw [if_neg hz, take_snoc hi, List.find?_append]
    have hx : [l.getD i default].find? (fun f => decide (asI f.lhs = z)) = none := by
      rw [List.find?_cons, decide_eq_false (fun e => hz e.symm)]
      rfl
    rw [hx, Option.or_none]
    cases h : (l.take i).find? (fun f => decide (asI f.lhs = z)) with
    | none => rfl
    | some f =>
      have hf0 := List.find?_some h
      have hf : asI f.lhs = z := of_decide_eq_true hf0
      dsimp only
      rw [← take_snoc hi, mgR_f hi (fun e => hz (by rw [e]; exact hf.symm))]
theorem sideF_put {l : List Fd} {i : Nat} (hi : i < l.length) (m : MK) : CoM (setKey (sideF (l.take i)) (.i .u32 (asI (l.getD i default).lhs)) (.raw (.int .u32 (bitV .or .u32 (asI (mgR (l.take i) (l.getD i default).lhs)) (asI (l.getD i default).rhs)))) m) (sideF (l.take (i + 1)) m) := by
  refine CoM.of_eq ?_
  unfold setKey
  cases m with
  | s b => rfl
  | i q z =>
    by_cases hq : q = .u32
    · subst hq
      show (bif (decide True && decide (z = _)) then _ else sideI _ z) = sideI _ z
      rw [← sideI_put hi z]
      by_cases hz : z = asI (l.getD i default).lhs
      · rw [if_pos hz, decide_eq_true hz]; rfl
      · rw [if_neg hz, decide_eq_false hz]; rfl
    · have h1 : MK.same (.i q z) (.i .u32 (asI (l.getD i default).lhs)) = false := by
        show (decide _ && decide _) = false
        rw [decide_eq_false hq, Bool.false_and]
      rw [h1]
      cases q <;> first | rfl | exact absurd rfl hq
end Go.Hx
end
section
namespace Go.Hx
open Go.Proofs
set_option maxRecDepth 100000
theorem cMerge (l : List Fd) (hl : l.length ≤ 16777216) : HPure Tryd.prog 97 [pP (fdl l)] (prOf [pP (fdl (mrgS l))]) := by
  refine hpure_of (nt := 47) Trydok Tryd.func97 rfl rfl (Nat.le_of_ble_eq_true rfl) ?_; refine hw_seq ?_; refine hw_region (E := TrydE) Trydok ?_; refine rq rfl rfl rfl rfl rfl ?_; refine rg_nil ?_; show HW _ _ _ _ _
  refine hw_seq ?_; refine hw_region (E := TrydE) Trydok ?_; refine rm 0 rfl rfl rfl rfl rfl rfl ?_; refine rq rfl rfl rfl rfl rfl ?_; refine rg_nil ?_; show HW _ _ _ _ _; refine hw_seq ?_; refine hw_region (E := TrydE) Trydok ?_
  refine rq rfl rfl rfl rfl rfl ?_; refine rg_nil ?_; show HW _ _ _ _ _; (iterate 2 refine hw_seq ?_); refine hw_region (E := TrydE) Trydok ?_; (iterate 3 refine rq rfl rfl rfl rfl rfl ?_); refine rg_nil ?_; show HW _ _ _ _ _
  refine hw_block ?_; refine hw_adopt 4 900 true 1 30 (lf sC []) (by decide) rfl (CoP.sl rfl (.inr rfl) (fun h => h) (fun i j hi _ => absurd hi (Nat.not_lt_zero i))) (.inr rfl) rfl ?_
  refine hw_loopK (ι := Nat) ⟨[(3, some _), (11, some _), (12, some _)], []⟩ ⟨⟨⟨_, rfl, CoR.refl _⟩, ⟨_, rfl, CoR.refl _⟩, ⟨_, rfl, CoR.refl _⟩, trivial⟩, trivial⟩ (fun i => ⟨[(4, some (.v (.one (.ref 900 ((l.take i).map Fd.lhs).length)))), (13, some (vI i))], [(0, some (.mp (.int .u32) i (sideF (l.take i)))), (900, some (.arr true 1 30 ((l.take i).map Fd.lhs).length (lf sC ((l.take i).map Fd.lhs))))]⟩) (fun i => i ≤ l.length) (fun i => l.length - i) (0) (Nat.zero_le _) ⟨⟨⟨_, rfl, (by first | exact CoR.refl _ | exact coi (by omega) | exact cob (by simp_all))⟩, ⟨_, rfl, (by first | exact CoR.refl _ | exact coi (by omega) | exact cob (by simp_all))⟩, trivial⟩, ⟨⟨_, rfl, ⟨rfl, Nat.le_refl _, sideF_nil⟩⟩, ⟨_, rfl, CoO.refl _⟩, trivial⟩⟩ ?_
  rintro i hi
  have hlen : ((l.take i).map Fd.lhs).length ≤ i := by rw [List.length_map, List.length_take]; omega
  refine hw_seq ?_; refine hw_region (E := TrydE) Trydok ?_; refine rq rfl rfl rfl rfl rfl ?_; refine rg_nil ?_; show HW _ _ _ _ _; refine hw_seq ?_; refine hw_cond _ rfl (fun r0 => ?_) (fun r0 => ?_)
  · skip
    have h0 := r0
    have h0 := of_decide_eq_true h0
    try simp only [Int.toNat_natCast] at h0
    refine hw_skip ?_; show HW _ _ _ _ _; refine hw_seq ?_; refine hw_block ?_; refine hw_seq ?_; refine hw_region (E := TrydE) Trydok ?_; (iterate 2 refine rq rfl rfl rfl rfl rfl ?_); refine rm 1 rfl rfl rfl rfl rfl rfl ?_
    refine rs rfl rfl rfl rfl rfl ?_; refine rg_nil ?_; show HW _ _ _ _ _; refine hw_seq ?_; refine hw_region (E := TrydE) Trydok ?_; (iterate 3 refine rq rfl rfl rfl rfl rfl ?_)
    refine rq (out := ⟨_, .v (.one (.p (asC (mgR (l.take i) (l.getD i default).lhs))))⟩) rfl rfl rfl (congrArg (fun z => some (Out.mk _ (HR.v (HC.one (HV.p z))))) (sideF_look _ _)) rfl ?_ (hp := ⟨rfl, rfl, wfA _⟩)
    (iterate 3 refine rq rfl rfl rfl rfl rfl ?_); refine rs rfl rfl rfl rfl rfl ?_ (hp := ⟨rfl, ⟨rfl, wfA _⟩, by simp only [maxLen]; omega⟩); refine rg_nil ?_; show HW _ _ _ _ _; refine hw_region (E := TrydE) Trydok ?_
    (iterate 3 refine rq rfl rfl rfl rfl rfl ?_); refine rm 2 rfl rfl rfl rfl rfl rfl ?_; refine ra 3 true rfl rfl rfl rfl rfl rfl ?_; refine rq rfl rfl rfl rfl rfl ?_; refine rg_nil ?_; show HW _ _ _ _ _
    refine hw_region (E := TrydE) Trydok ?_; (iterate 2 refine rq rfl rfl rfl rfl rfl ?_); refine rg_nil ?_; refine ⟨i + 1, ?_, ?_, ?_⟩
    · show i + 1 ≤ _; omega
    · first | omega | (dsimp only; omega)
    · exact ⟨⟨⟨_, rfl, (ref_app (mapT (by omega)))⟩, ⟨_, rfl, (by first | exact CoR.refl _ | exact coi (by omega) | exact cob (by simp_all))⟩, ⟨_, rfl, CoR.refl _⟩, ⟨_, rfl, CoR.refl _⟩, ⟨_, rfl, CoR.refl _⟩, trivial⟩, ⟨⟨_, rfl, ⟨rfl, Nat.le_refl _, sideF_put (by omega)⟩⟩, ⟨_, rfl, (arr_app1 (mapT (by omega)) (CoP.refl _))⟩, trivial⟩⟩
  · skip
    have h0 := r0
    have h0 := of_decide_eq_false h0
    try simp only [Int.toNat_natCast] at h0
    obtain rfl : i = l.length := by omega
    rw [show (l.take l.length).map Fd.lhs = l.map Fd.lhs by rw [List.take_length], show sideF (l.take l.length) = sideF l by rw [List.take_length]]
    refine hw_exit ?_; show HW _ _ _ _ _; refine hw_seq ?_; refine hw_region (E := TrydE) Trydok ?_; refine rq rfl rfl rfl rfl rfl ?_; refine rg_nil ?_; show HW _ _ _ _ _; (iterate 2 refine hw_seq ?_)
    refine hw_freeze 4 rfl rfl rfl ?_
    have hol := ord_len (l.map Fd.lhs)
    rw [List.length_map] at hol
    refine hw_region (E := TrydE) Trydok ?_; refine rq rfl rfl rfl rfl rfl ?_; refine rc rfl rfl rfl rfl rfl rfl good112 (cOrder (l.map Fd.lhs) (by rw [List.length_map]; omega)) (CoL.refl _) rfl rfl ?_
    (iterate 2 refine rq rfl rfl rfl rfl rfl ?_); refine rg_nil ?_; show HW _ _ _ _ _; refine hw_block ?_
    refine hw_adopt 7 901 true 2 32 (lf Fd.c []) (by decide) rfl (CoP.sl rfl (.inr rfl) (fun h => h) (fun i j hi _ => absurd hi (Nat.not_lt_zero i))) (.inr rfl) rfl ?_
    refine hw_loopK (ι := Nat) ⟨[(3, some _), (31, some _), (32, some _)], [(0, some _)]⟩ ⟨⟨⟨_, rfl, CoR.refl _⟩, ⟨_, rfl, CoR.refl _⟩, ⟨_, rfl, CoR.refl _⟩, trivial⟩, ⟨⟨_, rfl, CoO.refl _⟩, trivial⟩⟩ (fun k => ⟨[(7, some (.v (.one (.ref 901 (((ord (l.map Fd.lhs)).take k).map (mgF l)).length)))), (33, some (vI k))], [(901, some (.arr true 2 32 (((ord (l.map Fd.lhs)).take k).map (mgF l)).length (lf Fd.c (((ord (l.map Fd.lhs)).take k).map (mgF l)))))]⟩) (fun k => k ≤ (ord (l.map Fd.lhs)).length) (fun k => (ord (l.map Fd.lhs)).length - k) (0) (Nat.zero_le _) ⟨⟨⟨_, rfl, (by first | exact CoR.refl _ | exact coi (by omega) | exact cob (by simp_all))⟩, ⟨_, rfl, (by first | exact CoR.refl _ | exact coi (by omega) | exact cob (by simp_all))⟩, trivial⟩, ⟨⟨_, rfl, CoO.refl _⟩, trivial⟩⟩ ?_
    rintro k hk
    have hlen2 : (((ord (l.map Fd.lhs)).take k).map (mgF l)).length ≤ k := by rw [List.length_map, List.length_take]; omega
    refine hw_seq ?_; refine hw_region (E := TrydE) Trydok ?_; refine rq rfl rfl rfl rfl rfl ?_; refine rg_nil ?_; show HW _ _ _ _ _; refine hw_seq ?_; refine hw_cond _ rfl (fun r1 => ?_) (fun r1 => ?_)
    · skip
      have h1 := r1
      have h1 := of_decide_eq_true h1
      try simp only [Int.toNat_natCast] at h1
      refine hw_skip ?_; show HW _ _ _ _ _; refine hw_seq ?_; refine hw_block ?_; refine hw_seq ?_; refine hw_region (E := TrydE) Trydok ?_; (iterate 3 refine rq rfl rfl rfl rfl rfl ?_); refine rg_nil ?_; show HW _ _ _ _ _
      refine hw_region (E := TrydE) Trydok ?_; (iterate 4 refine rq rfl rfl rfl rfl rfl ?_)
      refine rq (out := ⟨_, .v (.one (.p (asC (mgR l ((ord (l.map Fd.lhs)).getD k default)))))⟩) rfl rfl rfl (congrArg (fun z => some (Out.mk _ (HR.v (HC.one (HV.p z))))) (sideF_look _ _)) rfl ?_ (hp := ⟨rfl, rfl, wfA _⟩)
      refine rq rfl rfl rfl rfl rfl ?_; refine rm 4 rfl rfl rfl rfl rfl rfl ?_; refine ra 5 true rfl rfl rfl rfl rfl rfl ?_; refine rq rfl rfl rfl rfl rfl ?_; refine rg_nil ?_; show HW _ _ _ _ _
      refine hw_region (E := TrydE) Trydok ?_; (iterate 2 refine rq rfl rfl rfl rfl rfl ?_); refine rg_nil ?_; refine ⟨k + 1, ?_, ?_, ?_⟩
      · show k + 1 ≤ _; omega
      · first | omega | (dsimp only; omega)
      · exact ⟨⟨⟨_, rfl, (ref_app (mapT (by omega)))⟩, ⟨_, rfl, (by first | exact CoR.refl _ | exact coi (by omega) | exact cob (by simp_all))⟩, ⟨_, rfl, CoR.refl _⟩, ⟨_, rfl, CoR.refl _⟩, ⟨_, rfl, CoR.refl _⟩, trivial⟩, ⟨⟨_, rfl, (arr_app2 (mapT (by omega)) (CoP.refl _) (CoP.refl _))⟩, ⟨_, rfl, CoO.refl _⟩, trivial⟩⟩
    · skip
      have h1 := r1
      have h1 := of_decide_eq_false h1
      try simp only [Int.toNat_natCast] at h1
      obtain rfl : k = (ord (l.map Fd.lhs)).length := by omega
      refine hw_exit ?_; show HW _ _ _ _ _; refine hw_seq ?_; refine hw_region (E := TrydE) Trydok ?_; (iterate 2 refine rq rfl rfl rfl rfl rfl ?_); refine rg_nil ?_; refine hw_freeze 2 rfl rfl rfl ?_; show HW _ _ _ _ _
      refine hw_ret ?_; refine ⟨.inr rfl, ?_⟩
      exact ⟨_, _, _, _, rfl, (by (repeat' apply And.intro) <;> first | trivial | exact Nat.le_of_ble_eq_true rfl | rfl), rfl, (by (repeat' apply And.intro) <;> first | trivial | exact Nat.le_of_ble_eq_true rfl | rfl), ⟨CoC.one (CoP.of_eq (by rw [List.take_length]; rfl)), trivial⟩⟩
end Go.Hx
end
