/- A part of the proof: lemmas for the theorem of this claim, merged by a program of ours out of Cs24, V23, Cs25, V24. -/
import Derived.Test.YtgeliioenkmfhaaDoorD30
set_option linter.all false
section
namespace Go.Hx
theorem violB_iff {l : List Fd} {p : AS} (h : bsz p ≤ 12) : violB l p = true ↔ ∃ x, sub x p ∧ vioP l p x = true := by
  constructor
  · intro hv
    obtain ⟨x, _, h1, h2⟩ := viol_some hv
    exact ⟨x, h1, h2⟩
  · rintro ⟨x, h1, h2⟩
    unfold violB violX
    rw [List.find?_isSome]
    refine ⟨x, ?_, h2⟩
    unfold subsC
    rw [if_neg (by omega)]
    exact mem_subsL.2 h1
section
variable {n : Int} {l : List Fd}
theorem inU_all (h : vErr n l = 0) : ∀ f ∈ l, sub f.lhs (fullI n) ∧ sub f.rhs (fullI n) := fun f hf => by
  obtain ⟨h0, h1, _, h3⟩ := vErr_ok h
  exact (inU_iff h0 h1).1 (List.all_eq_true.1 h3 f hf)
theorem full_closed (h : vErr n l = 0) : closedB l (fullI n) := fun f hf _ => (inU_all h f hf).2
theorem clo_full (h : vErr n l = 0) {x : AS} (hx : sub x (fullI n)) : sub (clo l x) (fullI n) := clo_least (full_closed h) hx
theorem any_viol (h : vErr n l = 0) (hn : n ≤ 12) : l.any (bcP n l) = violB l (fullI n) := by
  have hb : bsz (fullI n) ≤ 12 := full_bsz (n := n) (m := 12) hn (by omega)
  rw [Bool.eq_iff_iff, violB_iff hb, List.any_eq_true]
  constructor
  · rintro ⟨f, hf, hv⟩
    unfold bcP at hv
    rw [Bool.and_eq_true, decide_eq_true_iff, decide_eq_true_iff] at hv
    obtain ⟨f1, f2⟩ := inU_all h f hf
    refine ⟨f.lhs, f1, ?_⟩
    have hc := sub_and.1 (clo_full h f1)
    unfold vioP
    rw [hc, Bool.and_eq_true, decide_eq_true_iff, decide_eq_true_iff]
    refine ⟨fun e => hv.1 ?_, hv.2⟩
    have h1 : sub f.rhs (clo l f.lhs) := clo_isClosed f hf clo_ge
    rw [e] at h1
    exact h1
  · rintro ⟨x, hx, hv⟩
    unfold vioP at hv
    rw [sub_and.1 (clo_full h hx), Bool.and_eq_true, decide_eq_true_iff, decide_eq_true_iff] at hv
    have hnc : ¬ closedB l x := fun hc => hv.1 (clo_fix (clStep_closed.2 hc))
    obtain ⟨f, hf, h1, h2⟩ : ∃ f ∈ l, sub f.lhs x ∧ ¬ sub f.rhs x := by
      apply Classical.byContradiction
      intro hne
      exact hnc fun f hf h1 => Classical.byContradiction fun h2 => hne ⟨f, hf, h1, h2⟩
    refine ⟨f, hf, ?_⟩
    unfold bcP
    rw [Bool.and_eq_true, decide_eq_true_iff, decide_eq_true_iff]
    refine ⟨fun e => h2 (sub_trans e h1), fun e => hv.2 ?_⟩; refine sub_antisymm (clo_full h hx) ?_
    rw [← e]
    exact clo_mono h1
theorem maxl_one (s : AS) : maxl [s] = [s] := by
  have e : ord [s] = [s] := (ord_eq (List.pairwise_singleton _ _) fun z => Iff.rfl).symm
  unfold maxl keepS worseF
  rw [e]
  simp
theorem maxl_mem {k : List AS} {z : AS} (h : z ∈ maxl k) : z ∈ k := by
  unfold maxl keepS at h
  exact mem_ord.1 (List.mem_filter.1 h).1
theorem dec_proper {p : AS} : ∀ (m : Nat) (todo out : List AS), (∀ s ∈ todo, sub s p ∧ s ≠ p) → p ∉ out → p ∉ decF l m todo out
  | 0, todo, out, _, h => h
  | m + 1, todo, out, ht, ho => by
    unfold decF
    split
    · exact ho
    · rename_i hne
      have hs := ht _ (getD_mem (l := todo) (j := todo.length - 1) (by omega))
      have htk : ∀ s ∈ todo.take (todo.length - 1), sub s p ∧ s ≠ p := fun s h => ht s (List.mem_of_mem_take h)
      generalize todo.getD (todo.length - 1) default = s at *
      split
      · rename_i hv
        obtain ⟨f1, f2, f3, f4⟩ := sp_facts hv
        have hp : ∀ a, sub a s → sub a p ∧ a ≠ p := fun a ha => ⟨sub_trans ha hs.1, fun e => hs.2 (sub_antisymm hs.1 (e ▸ ha))⟩
        refine dec_proper m _ _ (fun a ha => ?_) ho
        rw [List.mem_append, List.mem_cons, List.mem_singleton] at ha
        rcases ha with ha | rfl | rfl
        · exact htk a ha
        · exact hp _ f1
        · exact hp _ f3
      · refine dec_proper m _ _ htk fun hm => ?_
        rw [List.mem_append, List.mem_singleton] at hm
        rcases hm with hm | hm
        · exact ho hm
        · exact hs.2 hm.symm
theorem dec_same (h : errS n l 8 = 0) : decide (decE n l = [fullI n]) = !violB l (fullI n) := by
  rw [decE_t h]
  have hg : [fullI n].getD ([fullI n].length - 1) default = fullI n := rfl
  cases hv : violB l (fullI n) with
  | false =>
    have e : decO n l = [fullI n] := by
      unfold decO
      show decF l (6560 + 1 + 1) [fullI n] [] = _
      unfold decF
      rw [if_neg (by simp), hg, if_neg (by rw [hv]; decide)]
      unfold decF
      rw [if_pos (by simp)]
      rfl
    rw [e, maxl_one]
    exact decide_eq_true rfl
  | true =>
    refine decide_eq_false fun e => ?_
    have hm : fullI n ∈ decO n l := maxl_mem (by rw [e]; exact List.mem_singleton.2 rfl)
    revert hm
    unfold decO
    show fullI n ∉ decF l (6561 + 1) [fullI n] []
    unfold decF
    rw [if_neg (by simp), hg, if_pos hv]
    obtain ⟨f1, f2, f3, f4⟩ := sp_facts hv
    refine dec_proper _ _ _ (fun a ha => ?_) (by simp)
    have ha : a = spA l (fullI n) ∨ a = spB l (fullI n) := by simpa using ha
    rcases ha with rfl | rfl
    · exact ⟨f1, f2⟩
    · exact ⟨f3, f4⟩
end
theorem mapT {α β : Type} [Inhabited α] {f : α → β} {l : List α} {i : Nat} (h : i < l.length) : (l.take (i + 1)).map f = (l.take i).map f ++ [f (l.getD i default)] := by
  rw [take_snoc h, List.map_append]
  rfl
structure Dps where
  n : BitVec 8
  l : List Dp
deriving Inhabited
def Dps.num (d : Dps) : Int := ((d.n.toNat % 7 : Nat) : Int)
def Dps.fds (d : Dps) : List Fd := d.l.map (Dp.fd d.num)
def Dps.c (d : Dps) : Nat → PV
  | 0 => .raw (.int .u8 (d.n.toNat : Int))
  | 1 => dpl d.l
  | _ => .any
abbrev Dps.pc (d : Dps) : PC := .agg [d.c 0, d.c 1]
theorem num_le (d : Dps) : 0 ≤ d.num ∧ d.num ≤ 6 := by unfold Dps.num; omega
theorem dps_ok {d : Dps} (h : d.l.length ≤ 6) : vErr d.num d.fds = 0 := by
  obtain ⟨h0, h1⟩ := num_le d
  unfold vErr
  rw [if_neg (by omega), if_neg (by unfold Dps.fds; rw [List.length_map]; omega), if_pos]
  rw [List.all_eq_true]
  intro f hf
  unfold Dps.fds at hf
  obtain ⟨x, hx, rfl⟩ := List.mem_map.1 hf
  exact (inU_iff h0 (by omega)).2 ⟨sub_and_l, sub_and_l⟩
theorem dps_err {d : Dps} (h : d.l.length ≤ 6) : errS d.num d.fds 8 = 0 := by
  unfold errS
  rw [if_pos (dps_ok h), if_neg (by have := (num_le d).2; omega)]
end Go.Hx
end
section
namespace Go.Hx
open Go.Proofs
set_option maxRecDepth 100000
theorem good56 : goodFn Tryd.prog 56 := ⟨Tryd.f56, Tryd.func56, by kernel_rfl, by kernel_rfl⟩
theorem cList (n : Int) (l : List Dp) (hl : l.length ≤ 16777216) : HPure Tryd.prog 56 [pI n, pP (dpl l)] (prOf [pP (fdl (l.map (Dp.fd n)))]) := by
  refine hpure_of (nt := 37) Trydok Tryd.func56 rfl rfl (Nat.le_of_ble_eq_true rfl) ?_; refine hw_seq ?_; refine hw_region (E := TrydE) Trydok ?_; refine rq rfl rfl rfl rfl rfl ?_; refine rg_nil ?_; show HW _ _ _ _ _
  refine hw_seq ?_; refine hw_region (E := TrydE) Trydok ?_; refine rq rfl rfl rfl rfl rfl ?_; refine rc rfl rfl rfl rfl rfl rfl good28 (cRFull n) (CoL.refl _) rfl rfl ?_; refine rq rfl rfl rfl rfl rfl ?_; refine rg_nil ?_
  show HW _ _ _ _ _; refine hw_seq ?_; refine hw_region (E := TrydE) Trydok ?_; refine rq rfl rfl rfl rfl rfl ?_; refine rg_nil ?_; show HW _ _ _ _ _; (iterate 2 refine hw_seq ?_); refine hw_region (E := TrydE) Trydok ?_
  refine rq rfl rfl rfl rfl rfl ?_; refine rg_nil ?_; show HW _ _ _ _ _; refine hw_block ?_
  refine hw_adopt 6 900 true 2 32 (lf Fd.c []) (by decide) rfl (CoP.sl rfl (.inr rfl) (fun h => h) (fun i j hi _ => absurd hi (Nat.not_lt_zero i))) (.inr rfl) rfl ?_
  refine hw_loopK (ι := Nat) ⟨[(1, some _), (5, some _)], []⟩ ⟨⟨⟨_, rfl, CoR.refl _⟩, ⟨_, rfl, CoR.refl _⟩, trivial⟩, trivial⟩ (fun i => ⟨[(6, some (.v (.one (.ref 900 ((l.take i).map (Dp.fd n)).length)))), (7, some (vI i))], [(900, some (.arr true 2 32 ((l.take i).map (Dp.fd n)).length (lf Fd.c ((l.take i).map (Dp.fd n)))))]⟩) (fun i => i ≤ l.length) (fun i => l.length - i) (0) (Nat.zero_le _) ⟨⟨⟨_, rfl, (by first | exact CoR.refl _ | exact coi (by omega) | exact cob (by simp_all))⟩, ⟨_, rfl, (by first | exact CoR.refl _ | exact coi (by omega) | exact cob (by simp_all))⟩, trivial⟩, ⟨⟨_, rfl, CoO.refl _⟩, trivial⟩⟩ ?_
  rintro i hi
  have hlen : ((l.take i).map (Dp.fd n)).length ≤ i := by rw [List.length_map, List.length_take]; omega
  (iterate 2 refine hw_seq ?_); refine hw_region (E := TrydE) Trydok ?_; (iterate 4 refine rq rfl rfl rfl rfl rfl ?_); refine rg_nil ?_; show HW _ _ _ _ _; refine hw_cond _ rfl (fun r0 => ?_) (fun r0 => ?_)
  · skip
    have h0 := r0
    have h0 := of_decide_eq_true h0
    try simp only [Int.toNat_natCast] at h0
    refine hw_skip ?_; show HW _ _ _ _ _; refine hw_seq ?_; refine hw_block ?_; refine hw_draw (E := TrydE) Trydok Trydmixed [0, 1, 2, 3, 4, 5, 6, 7, 8, 9, 10, 11, 12, 13, 14, 15, 16, 17, 18, 19, 20] ?_
    (iterate 18 refine rq rfl rfl rfl rfl rfl ?_); refine rm 0 rfl rfl rfl rfl rfl rfl ?_; refine ra 1 true rfl rfl rfl rfl rfl rfl ?_; refine rq rfl rfl rfl rfl rfl ?_; refine rg_nil ?_; refine ⟨by kernel_rfl, ?_⟩
    show HW _ _ _ _ _; refine hw_region (E := TrydE) Trydok ?_; (iterate 3 refine rq rfl rfl rfl rfl rfl ?_); refine rg_nil ?_; refine ⟨i + 1, ?_, ?_, ?_⟩
    · show i + 1 ≤ _; omega
    · first | omega | (dsimp only; omega)
    · exact ⟨⟨⟨_, rfl, (ref_app (mapT (by omega)))⟩, ⟨_, rfl, (by first | exact CoR.refl _ | exact coi (by omega) | exact cob (by simp_all))⟩, ⟨_, rfl, CoR.refl _⟩, ⟨_, rfl, CoR.refl _⟩, trivial⟩, ⟨⟨_, rfl, (arr_app2 (mapT (by omega)) (CoP.of_eq (congrArg (fun z => PV.raw (.int .u32 z)) (u8_and _ _))) (CoP.of_eq (congrArg (fun z => PV.raw (.int .u32 z)) (u8_and _ _))))⟩, trivial⟩⟩
  · skip
    have h0 := r0
    have h0 := of_decide_eq_false h0
    try simp only [Int.toNat_natCast] at h0
    obtain rfl : i = l.length := by omega
    refine hw_exit ?_; show HW _ _ _ _ _; refine hw_seq ?_; refine hw_region (E := TrydE) Trydok ?_; (iterate 2 refine rq rfl rfl rfl rfl rfl ?_); refine rg_nil ?_; refine hw_freeze 4 rfl rfl rfl ?_; show HW _ _ _ _ _
    refine hw_ret ?_; refine ⟨.inr rfl, ?_⟩
    exact ⟨_, _, _, _, rfl, (by (repeat' apply And.intro) <;> first | trivial | exact Nat.le_of_ble_eq_true rfl | rfl), rfl, (by (repeat' apply And.intro) <;> first | trivial | exact Nat.le_of_ble_eq_true rfl | rfl), ⟨CoC.one (CoP.of_eq (by rw [List.take_length]; rfl)), trivial⟩⟩
theorem good23 : goodFn Tryd.prog 23 := ⟨Tryd.f23, Tryd.func23, by kernel_rfl, by kernel_rfl⟩
theorem cOf (d : Dps) (hl : d.l.length ≤ 16777216) : HPure Tryd.prog 23 [d.pc] (prOf [pI d.num, pP (fdl d.fds), pB (decide (d.l.length ≤ 6))]) := by
  refine hpure_of (nt := 19) Trydok Tryd.func23 rfl rfl (Nat.le_of_ble_eq_true rfl) ?_; refine hw_seq ?_; refine hw_region (E := TrydE) Trydok ?_; refine rm 0 rfl rfl rfl rfl rfl rfl ?_; (iterate 3 refine rq rfl rfl rfl rfl rfl ?_)
  refine rg_nil ?_; show HW _ _ _ _ _; refine hw_seq ?_; refine hw_region (E := TrydE) Trydok ?_; (iterate 5 refine rq rfl rfl rfl rfl rfl ?_); refine rg_nil ?_; show HW _ _ _ _ _; refine hw_seq ?_
  refine hw_draw (E := TrydE) Trydok Trydmixed [0, 1, 2, 3, 4, 5, 6, 7, 8, 9, 10, 11] ?_; (iterate 4 refine rq rfl rfl rfl rfl rfl ?_); refine rc rfl rfl rfl rfl rfl rfl good56 (cList d.num d.l hl) (CoL.refl _) rfl rfl ?_
  (iterate 7 refine rq rfl rfl rfl rfl rfl ?_); refine rg_nil ?_; refine ⟨by kernel_rfl, ?_⟩; show HW _ _ _ _ _; refine hw_ret ?_; refine ⟨.inr rfl, ?_⟩
  exact ⟨_, _, _, _, rfl, (by (repeat' apply And.intro) <;> first | trivial | exact Nat.le_of_ble_eq_true rfl | rfl), rfl, (by (repeat' apply And.intro) <;> first | trivial | exact Nat.le_of_ble_eq_true rfl | rfl), ⟨cci (show (d.n.toNat : Int) % 7 = d.num by unfold Dps.num; omega), CoC.refl _, ccb (decide_eq_decide.2 (by omega)), trivial⟩⟩
end Go.Hx
end
section
namespace Go.Hx
open Go.Proofs
section
variable {d : Dps}
theorem cIs9 (h : d.l.length ≤ 6) : HPure Tryd.prog 35 [pI d.num, pP (fdl d.fds)] (prOf [pB (!violB d.fds (fullI d.num)), pI 0]) := by
  have hh := cBIs d.num d.fds
  rw [bcS_t (dps_ok h), any_viol (dps_ok h) (by have := (num_le d).2; omega), dps_ok h] at hh
  exact hh
theorem cDec9 (h : d.l.length ≤ 6) : HPure Tryd.prog 36 [pI d.num, pP (fdl d.fds)] (prOf [pP (asl (decE d.num d.fds)), pI 0]) := by
  have hh := cDec d.num d.fds
  rw [dps_err h] at hh
  exact hh
theorem cSame9 (h : d.l.length ≤ 6) : HPure Tryd.prog 26 [pP (asl (decE d.num d.fds)), pP (asl [fullI d.num])] (prOf [pB (!violB d.fds (fullI d.num))]) := by
  have hh := cSameS (decE d.num d.fds) [fullI d.num]
  rw [dec_same (dps_err h)] at hh
  exact hh
end
end Go.Hx
end
section
namespace Go.Hx
open Go.Proofs
set_option maxRecDepth 100000
theorem good9 : goodFn Tryd.prog 9 := ⟨Tryd.f9, Tryd.func9, by kernel_rfl, by kernel_rfl⟩
theorem cLaw9 (d : Dps) (hl : d.l.length ≤ 16777216) : HPure Tryd.prog 9 [d.pc] (prOf [pB true]) := by
  refine hpure_of (nt := 58) Trydok Tryd.func9 rfl rfl (Nat.le_of_ble_eq_true rfl) ?_; refine hw_seq ?_; refine hw_region (E := TrydE) Trydok ?_; refine rm 0 rfl rfl rfl rfl rfl rfl ?_; refine rq rfl rfl rfl rfl rfl ?_
  refine rg_nil ?_; show HW _ _ _ _ _; refine hw_seq ?_; refine hw_region (E := TrydE) Trydok ?_; refine rq rfl rfl rfl rfl rfl ?_; refine rc rfl rfl rfl rfl rfl rfl good23 (cOf d hl) (CoL.refl _) rfl rfl ?_
  (iterate 7 refine rq rfl rfl rfl rfl rfl ?_); refine rg_nil ?_; show HW _ _ _ _ _; (iterate 2 refine hw_seq ?_); refine hw_region (E := TrydE) Trydok ?_; refine rc rfl rfl rfl rfl rfl rfl good31 (cAwake) (CoL.refl _) rfl rfl ?_
  (iterate 5 refine rq rfl rfl rfl rfl rfl ?_); refine rg_nil ?_; show HW _ _ _ _ _; refine hw_cond _ rfl (fun r0 => ?_) (fun r0 => ?_)
  · skip
    have h0 := r0
    have h0 := not_t h0
    refine hw_seq ?_; refine hw_region (E := TrydE) Trydok ?_; refine rc rfl rfl rfl rfl rfl rfl good31 (cAwake) (CoL.refl _) rfl rfl ?_; refine rq rfl rfl rfl rfl rfl ?_; refine rg_nil ?_; show HW _ _ _ _ _; refine hw_ret ?_
    refine ⟨.inr rfl, ?_⟩
    exact ⟨_, _, _, _, rfl, (by (repeat' apply And.intro) <;> first | trivial | exact Nat.le_of_ble_eq_true rfl | rfl), rfl, (by (repeat' apply And.intro) <;> first | trivial | exact Nat.le_of_ble_eq_true rfl | rfl), CoL.refl _⟩
  · skip
    have h0 := r0
    have h0 := not_f h0
    have hd : d.l.length ≤ 6 := of_decide_eq_true h0
    refine hw_skip ?_; show HW _ _ _ _ _; refine hw_seq ?_; refine hw_region (E := TrydE) Trydok ?_; (iterate 2 refine rq rfl rfl rfl rfl rfl ?_); refine rc rfl rfl rfl rfl rfl rfl good35 (cIs9 hd) (CoL.refl _) rfl rfl ?_
    (iterate 5 refine rq rfl rfl rfl rfl rfl ?_); refine rg_nil ?_; show HW _ _ _ _ _; refine hw_seq ?_; refine hw_region (E := TrydE) Trydok ?_; (iterate 2 refine rq rfl rfl rfl rfl rfl ?_)
    refine rc rfl rfl rfl rfl rfl rfl good36 (cDec9 hd) (CoL.refl _) rfl rfl ?_; (iterate 5 refine rq rfl rfl rfl rfl rfl ?_); refine rg_nil ?_; show HW _ _ _ _ _; refine hw_seq ?_; refine hw_region (E := TrydE) Trydok ?_
    (iterate 7 refine rq rfl rfl rfl rfl rfl ?_); (iterate 3 refine rq rfl rfl rfl rfl (gtt (bif_tk rfl rfl)) ?_); refine rc rfl rfl rfl rfl rfl rfl good28 (cRFull d.num) (CoL.refl _) rfl (gtt (bif_tk rfl rfl)) ?_
    refine rc rfl rfl rfl rfl rfl rfl good37 (cRForm d.fds (fullI d.num)) (CoL.refl _) rfl (gtt (bif_tk rfl rfl)) ?_; refine rq rfl rfl rfl rfl (gtt (bif_tk rfl rfl)) ?_; (iterate 2 refine rq rfl rfl rfl rfl rfl ?_)
    refine rsplit rfl rfl (fun r1 => ?_) (fun r1 => ?_)
    · skip
      have h1 := r1
      have h1 := bif_t (bif_tk rfl rfl) h1
      (iterate 3 refine rq rfl rfl rfl rfl (gtt r1) ?_); refine rc rfl rfl rfl rfl rfl rfl good28 (cRFull d.num) (CoL.refl _) rfl (gtt r1) ?_; refine rm 1 rfl rfl rfl rfl rfl (gtt r1) ?_
      refine rg_fcall rfl rfl rfl rfl rfl rfl good26 (HPure.eat (hcs := [.one (.p (asl (decE d.num d.fds))), .one (.ref 1 1)]) (o1 := [(1, .arr true 1 30 1 (lf sC [fullI d.num]))]) (cSame9 hd) rfl (by (repeat' apply And.intro) <;> first | trivial | rfl) (CoL.refl _)) (CoHCL.refl _) ⟨⟨_, rfl, (arr_lit1 (CoP.refl _))⟩, trivial⟩ rfl (gtt r1) ?_
      refine rq rfl rfl rfl rfl (gtt r1) ?_; (iterate 2 refine rq rfl rfl rfl rfl rfl ?_); refine rg_nil ?_; show HW _ _ _ _ _; refine hw_ret ?_; refine ⟨.inr rfl, ?_⟩
      exact ⟨_, _, _, _, rfl, (by (repeat' apply And.intro) <;> first | trivial | exact Nat.le_of_ble_eq_true rfl | rfl), rfl, (by (repeat' apply And.intro) <;> first | trivial | exact Nat.le_of_ble_eq_true rfl | rfl), ⟨ccb (by simp_all), trivial⟩⟩
    · skip
      have h1 := r1
      have h1 := bif_t (bif_tk rfl rfl) h1
      (iterate 7 refine rk rfl rfl rfl (gft r1) ?_); refine rq rfl rfl rfl rfl rfl ?_ (hp := r1); refine rq rfl rfl rfl rfl rfl ?_; refine rg_nil ?_; show HW _ _ _ _ _; refine hw_ret ?_; refine ⟨.inr rfl, ?_⟩
      exact ⟨_, _, _, _, rfl, (by (repeat' apply And.intro) <;> first | trivial | exact Nat.le_of_ble_eq_true rfl | rfl), rfl, (by (repeat' apply And.intro) <;> first | trivial | exact Nat.le_of_ble_eq_true rfl | rfl), ⟨ccb (by simp_all), trivial⟩⟩
end Go.Hx
end
