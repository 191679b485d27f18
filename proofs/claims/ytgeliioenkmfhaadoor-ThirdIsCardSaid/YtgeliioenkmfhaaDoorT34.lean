/- A part of the proof: lemmas for the theorem of this claim, merged by a program of ours out of Cs37, Cs38, V35, Cs39, V36, Cs40, Cs41, V37, Cs42. -/
import Derived.Test.YtgeliioenkmfhaaDoorT25
import Derived.Test.YtgeliioenkmfhaaDoorT28
import Derived.Test.YtgeliioenkmfhaaDoorT33
set_option linter.all false
section
namespace Go.Hx
def apartL (l : List Fd) : Prop := ∀ f ∈ l, ∀ i, i < 32 → f.rhs.getLsbD i = true → f.lhs.getLsbD i = false
theorem apart_split (l : List Fd) : apartL (splitL l) := fun g hg i hi hb => by
  unfold splitL at hg
  obtain ⟨ys, hys, hxy⟩ := List.mem_flatten.1 hg
  obtain ⟨f, hf, rfl⟩ := List.mem_map.1 hys
  unfold splitA at hxy
  obtain ⟨a, ha, rfl⟩ := List.mem_map.1 hxy
  have h1 : ((1 : AS) <<< a).getLsbD i = decide (i = a) := bit_one a i hi
  rw [show (⟨f.lhs, (1 : AS) <<< a⟩ : Fd).rhs.getLsbD i = decide (i = a) from h1, decide_eq_true_iff] at hb
  subst hb
  have hm := (mem_membs.1 ha).2
  rw [BitVec.getLsbD_and, BitVec.getLsbD_not, decide_eq_true hi, Bool.true_and, Bool.and_eq_true] at hm
  simpa using hm.2
theorem apart_redA {i a : Nat} {l : List Fd} (h : apartL l) : apartL (redA i l a) := by
  unfold redA
  split
  · intro x hx
    rcases List.mem_or_eq_of_mem_set hx with hx | rfl
    · exact h x hx
    · by_cases hi : i < l.length
      · intro j hj hb
        have hm : l.getD i default ∈ l := by rw [List.getD_eq_getElem?_getD, List.getElem?_eq_getElem hi]; exact List.getElem_mem hi
        have := h _ hm j hj hb
        unfold cutF
        show ((l.getD i default).lhs &&& ~~~((1 : AS) <<< a)).getLsbD j = false
        rw [BitVec.getLsbD_and, this]
        rfl
      · rw [List.set_eq_of_length_le (by omega)] at hx
        exact h _ hx
  · exact h
theorem apart_foldA {i : Nat} : ∀ (m : List Nat) (l : List Fd), apartL l → apartL (m.foldl (redA i) l)
  | [], _, h => h
  | a :: m, l, h => apart_foldA m _ (apart_redA h)
theorem apart_redT {l : List Fd} (h : apartL l) : ∀ i, apartL (redT l i)
  | 0 => h
  | i + 1 => by rw [redT_succ]; exact apart_foldA _ _ (apart_redT h i)
theorem apart_min (l : List Fd) : apartL (minS l) := fun f hf => by
  have h1 := mem_onceL.1 (mem_dropR _ _ _ hf)
  exact apart_redT (fun g hg => apart_split l g (mem_onceL.1 hg)) _ f h1
section
variable {n : Int} {l : List Fd}
theorem third_eq (h : vErr n l = 0) : localS l (fullI n) = decide (viosE n l = []) := by
  have hme := minE_t h
  rw [Bool.eq_iff_iff, decide_eq_true_iff]
  constructor
  · intro hl
    unfold viosE
    rw [List.filter_eq_nil_iff]
    intro f hf hv
    rw [hme] at hf
    unfold vio3 at hv
    rw [Bool.and_eq_true, decide_eq_true_iff, decide_eq_true_iff] at hv
    have hx := minS_in h f hf
    have hbad : badL l (fullI n) f.lhs = true := by
      unfold badL
      have e : supP l (fullI n) f.lhs = false := decide_eq_false fun e => hv.1 ((clo_full_iff h hx).1 e)
      rw [e, Bool.not_false, Bool.true_and, decide_eq_true_iff]
      intro hz
      refine hv.2 (sub_trans (sub_bit.2 fun i hi hb => ?_) hz)
      have h1 : sub f.rhs (clo l f.lhs) := by rw [← clo_min]; exact clo_isClosed f hf clo_ge
      have h2 := apart_min l f hf i hi hb
      rw [BitVec.getLsbD_and, BitVec.getLsbD_and, BitVec.getLsbD_not, decide_eq_true hi, sub_bit.1 h1 i hi hb, sub_bit.1 (minS_inR h f hf) i hi hb, h2]
      rfl
    rw [local_f hx hbad] at hl
    cases hl
  · intro hv
    refine local_t fun x hx => ?_
    cases hs : supP l (fullI n) x with
    | true => exact bad_f1 hs
    | false =>
      have hns : ¬ sub (fullI n) (clo l x) := of_decide_eq_false hs
      unfold badL
      rw [hs, Bool.not_false, Bool.true_and]
      refine decide_eq_false fun hne => hne ?_
      have hcl : sub (clo l x) (x ||| (primeS l (fullI n) &&& clo l x)) := by
        rw [← clo_min]
        refine clo_least (fun f hf hfs => ?_) sub_or_l
        have hS : sub (x ||| (primeS l (fullI n) &&& clo (minS l) x)) (clo l x) := or_sub clo_ge (by rw [clo_min]; exact sub_and_l)
        have hlx := sub_trans hfs hS
        have hr : sub f.rhs (clo l x) := by
          rw [← clo_min] at hlx ⊢
          exact clo_isClosed f hf hlx
        have hnf : clo l f.lhs ≠ fullI n := fun e => hns (by
          rw [← e]
          have := clo_mono (l := l) hlx
          rwa [clo_idem] at this)
        have hn3 : ¬ vio3 n l f = true := by
          unfold viosE at hv
          rw [List.filter_eq_nil_iff] at hv
          exact hv f (by rw [hme]; exact hf)
        have hrp : sub f.rhs (primeS l (fullI n)) := by
          apply Classical.byContradiction
          intro hc
          apply hn3
          unfold vio3
          rw [Bool.and_eq_true, decide_eq_true_iff, decide_eq_true_iff]
          exact ⟨hnf, hc⟩
        refine sub_trans (sub_and_both hrp ?_) sub_or_r
        rw [clo_min]
        exact hr
      show sub ((clo l x &&& fullI n) &&& ~~~x) (primeS l (fullI n))
      refine sub_bit.2 fun i hi hb => ?_
      rw [BitVec.getLsbD_and, BitVec.getLsbD_and, BitVec.getLsbD_not, decide_eq_true hi, Bool.true_and, Bool.and_eq_true, Bool.and_eq_true] at hb
      have h3 := sub_bit.1 hcl i hi hb.1.1
      have hxi : x.getLsbD i = false := by simpa using hb.2
      rw [BitVec.getLsbD_or, hxi, Bool.false_or, BitVec.getLsbD_and, Bool.and_eq_true] at h3
      exact h3.1
end
end Go.Hx
end
section
namespace Go.Hx
open Go.Proofs
set_option maxRecDepth 100000
theorem ex3_vio : viosE 4 chainL = chainL ∧ vErr 4 chainL = 0 := by decide +kernel
theorem ex3_syn : synE 4 chainL = [3, 6, 9] := by decide +kernel
theorem ex3_sec : secR 4 chainL = false := by decide +kernel
theorem ex3_is : (decide (vErr 3 postL = 0) && decide (viosE 3 postL = [])) = true ∧ vErr 3 postL = 0 := by decide +kernel
theorem cVios4 : HPure Tryd.prog 20 [pI 4, pP (fdl chainL)] (prOf [pP (fdl chainL), pI 0]) := by
  have h := cTVios 4 chainL
  rw [ex3_vio.1, ex3_vio.2] at h
  exact h
theorem cSynth4 (hM : ∀ k : List Fd, k.length ≤ 16777216 → HPure Tryd.prog 97 [pP (fdl k)] (prOf [pP (fdl (mrgS k))])) : HPure Tryd.prog 24 [pI 4, pP (fdl chainL)] (prOf [pP (asl [3, 6, 9]), pI 0]) := by
  have h := cTSynth hM 4 chainL
  rw [ex3_syn, ex3_vio.2] at h
  exact h
theorem cSecond4 : HPure Tryd.prog 17 [pI 4, pP (fdl chainL)] (prOf [pB false, pI 0]) := by
  have h := cTSecond 4 chainL
  rw [ex3_sec, ex3_vio.2] at h
  exact h
theorem cIs3 : HPure Tryd.prog 14 [pI 3, pP (fdl postL)] (prOf [pB true, pI 0]) := by
  have h := cTIs 3 postL
  rw [ex3_is.1, ex3_is.2] at h
  exact h
theorem cSameC : HPure Tryd.prog 22 [pP (fdl chainL), pP (fdl chainL)] (prOf [pB true]) := by
  have h := cSameF chainL chainL
  rw [decide_eq_true rfl] at h
  exact h
theorem cSame369 : HPure Tryd.prog 26 [pP (asl [3, 6, 9]), pP (asl [3, 6, 9])] (prOf [pB true]) := by
  have h := cSameS [3, 6, 9] [3, 6, 9]
  rw [decide_eq_true rfl] at h
  exact h
theorem arr_lit3 {α : Type} [Inhabited α] {wr wr' : Bool} {e : TypeId} {c : α → Nat → PV} {x y z : α} {f : Nat → Nat → PV} (h0 : CoP (f 0 0) (c x 0)) (h1 : CoP (f 1 0) (c y 0)) (h2 : CoP (f 2 0) (c z 0)) (hw : wr' = true → wr = true := by exact fun h => h) : CoO (.arr wr 1 e 3 f) (.arr wr' 1 e 3 (lf c [x, y, z])) :=
  ⟨hw, rfl, rfl, rfl, fun i j hi hj => by
    have hi : i < 3 := hi
    have hj : j < 1 := hj
    obtain rfl : j = 0 := by omega
    rcases (by omega : i = 0 ∨ i = 1 ∨ i = 2) with rfl | rfl | rfl
    · exact h0
    · exact h1
    · exact h2⟩
theorem arr_fd2 {wr wr' : Bool} {e : TypeId} {x y : Fd} {f : Nat → Nat → PV} (h0 : CoP (f 0 0) (x.c 0)) (h1 : CoP (f 0 1) (x.c 1)) (h2 : CoP (f 1 0) (y.c 0)) (h3 : CoP (f 1 1) (y.c 1)) (hw : wr' = true → wr = true := by exact fun h => h) : CoO (.arr wr 2 e 2 f) (.arr wr' 2 e 2 (lf Fd.c [x, y])) :=
  ⟨hw, rfl, rfl, rfl, fun i j hi hj => by
    have hi : i < 2 := hi
    have hj : j < 2 := hj
    rcases (by omega : i = 0 ∨ i = 1) with rfl | rfl <;> rcases (by omega : j = 0 ∨ j = 1) with rfl | rfl
    · exact h0
    · exact h1
    · exact h2
    · exact h3⟩
end Go.Hx
end
section
namespace Go.Hx
open Go.Proofs
set_option maxRecDepth 100000
theorem good12 : goodFn Tryd.prog 12 := ⟨Tryd.f12, Tryd.func12, by kernel_rfl, by kernel_rfl⟩
theorem cAwake3 (hM : ∀ k : List Fd, k.length ≤ 16777216 → HPure Tryd.prog 97 [pP (fdl k)] (prOf [pP (fdl (mrgS k))]))  : HPure Tryd.prog 12 [] (prOf [pB true]) := by
  refine hpure_of (nt := 66) Trydok Tryd.func12 rfl rfl (Nat.le_of_ble_eq_true rfl) ?_; refine hw_seq ?_; refine hw_region (E := TrydE) Trydok ?_; refine rq rfl rfl rfl rfl rfl ?_; refine rg_nil ?_; show HW _ _ _ _ _
  refine hw_seq ?_; refine hw_region (E := TrydE) Trydok ?_; (iterate 2 refine rq rfl rfl rfl rfl rfl ?_); refine rm 0 rfl rfl rfl rfl rfl rfl ?_; refine rq rfl rfl rfl rfl rfl ?_; refine rg_nil ?_; refine hw_freeze 1 rfl rfl rfl ?_
  show HW _ _ _ _ _; refine hw_seq ?_; refine hw_region (E := TrydE) Trydok ?_; refine rq rfl rfl rfl rfl rfl ?_
  refine rc rfl rfl rfl rfl rfl rfl good20 (cVios4) (⟨CoC.refl _, CoC.one (co_fd2 (CoP.refl _) (CoP.refl _) (CoP.refl _) (CoP.refl _)), trivial⟩) rfl rfl ?_; (iterate 5 refine rq rfl rfl rfl rfl rfl ?_); refine rg_nil ?_
  show HW _ _ _ _ _; refine hw_seq ?_; refine hw_region (E := TrydE) Trydok ?_; refine rq rfl rfl rfl rfl rfl ?_
  refine rc rfl rfl rfl rfl rfl rfl good24 (cSynth4 hM) (⟨CoC.refl _, CoC.one (co_fd2 (CoP.refl _) (CoP.refl _) (CoP.refl _) (CoP.refl _)), trivial⟩) rfl rfl ?_; (iterate 5 refine rq rfl rfl rfl rfl rfl ?_); refine rg_nil ?_
  show HW _ _ _ _ _; refine hw_seq ?_; refine hw_region (E := TrydE) Trydok ?_; refine rq rfl rfl rfl rfl rfl ?_
  refine rc rfl rfl rfl rfl rfl rfl good17 (cSecond4) (⟨CoC.refl _, CoC.one (co_fd2 (CoP.refl _) (CoP.refl _) (CoP.refl _) (CoP.refl _)), trivial⟩) rfl rfl ?_; (iterate 5 refine rq rfl rfl rfl rfl rfl ?_); refine rg_nil ?_
  show HW _ _ _ _ _; refine hw_seq ?_; refine hw_region (E := TrydE) Trydok ?_; (iterate 2 refine rq rfl rfl rfl rfl rfl ?_); refine rm 1 rfl rfl rfl rfl rfl rfl ?_
  refine rg_fcall rfl rfl rfl rfl rfl rfl good14 (HPure.eat (hcs := [.one (.p (.raw (.int .i64 3))), .one (.ref 1 2)]) (o1 := [(1, .arr true 2 32 2 (lf Fd.c postL))]) (cIs3) rfl (by (repeat' apply And.intro) <;> first | trivial | rfl) (CoL.refl _)) (CoHCL.refl _) ⟨⟨_, rfl, (arr_fd2 (CoP.refl _) (CoP.refl _) (CoP.refl _) (CoP.refl _))⟩, trivial⟩ rfl rfl ?_
  (iterate 5 refine rq rfl rfl rfl rfl rfl ?_); refine rg_nil ?_; show HW _ _ _ _ _; refine hw_seq ?_; refine hw_region (E := TrydE) Trydok ?_; (iterate 7 refine rq rfl rfl rfl rfl rfl ?_)
  (iterate 2 refine rq rfl rfl rfl rfl (gtt (bif_tk rfl rfl)) ?_); (iterate 2 refine rq rfl rfl rfl rfl rfl ?_); (iterate 2 refine rq rfl rfl rfl rfl (gtt (bif_tk (bif_tk rfl rfl) rfl)) ?_)
  (iterate 2 refine rq rfl rfl rfl rfl rfl ?_); (iterate 2 refine rq rfl rfl rfl rfl (gtt (bif_tk (bif_tk (bif_tk rfl rfl) rfl) rfl)) ?_)
  refine rc rfl rfl rfl rfl rfl rfl good22 (cSameC) (⟨CoC.refl _, CoC.one (co_fd2 (CoP.refl _) (CoP.refl _) (CoP.refl _) (CoP.refl _)), trivial⟩) rfl (gtt (bif_tk (bif_tk (bif_tk rfl rfl) rfl) rfl)) ?_
  (iterate 2 refine rq rfl rfl rfl rfl rfl ?_); refine rq rfl rfl rfl rfl (gtt (bif_tk (bif_tk (bif_tk (bif_tk rfl rfl) rfl) rfl) rfl)) ?_
  refine rm 2 rfl rfl rfl rfl rfl (gtt (bif_tk (bif_tk (bif_tk (bif_tk rfl rfl) rfl) rfl) rfl)) ?_
  refine rg_fcall rfl rfl rfl rfl rfl rfl good26 (HPure.eat (hcs := [.one (.p (asl [3, 6, 9])), .one (.ref 2 3)]) (o1 := [(2, .arr true 1 30 3 (lf sC [3, 6, 9]))]) (cSame369) rfl (by (repeat' apply And.intro) <;> first | trivial | rfl) (CoL.refl _)) (CoHCL.refl _) ⟨⟨_, rfl, (arr_lit3 (CoP.refl _) (CoP.refl _) (CoP.refl _))⟩, trivial⟩ rfl (gtt (bif_tk (bif_tk (bif_tk (bif_tk rfl rfl) rfl) rfl) rfl)) ?_
  (iterate 2 refine rq rfl rfl rfl rfl rfl ?_); (iterate 2 refine rq rfl rfl rfl rfl (gtt (bif_tk (bif_tk (bif_tk (bif_tk (bif_tk rfl rfl) rfl) rfl) rfl) rfl)) ?_); (iterate 2 refine rq rfl rfl rfl rfl rfl ?_)
  refine rq rfl rfl rfl rfl (gtt (bif_tk (bif_tk (bif_tk (bif_tk (bif_tk (bif_tk rfl rfl) rfl) rfl) rfl) rfl) rfl)) ?_; (iterate 2 refine rq rfl rfl rfl rfl rfl ?_); refine rg_nil ?_; show HW _ _ _ _ _; refine hw_ret ?_
  refine ⟨.inr rfl, ?_⟩
  exact ⟨_, _, _, _, rfl, (by (repeat' apply And.intro) <;> first | trivial | exact Nat.le_of_ble_eq_true rfl | rfl), rfl, (by (repeat' apply And.intro) <;> first | trivial | exact Nat.le_of_ble_eq_true rfl | rfl), CoL.refl _⟩
theorem cLaw4 (hM : ∀ k : List Fd, k.length ≤ 16777216 → HPure Tryd.prog 97 [pP (fdl k)] (prOf [pP (fdl (mrgS k))])) (n : Int) (l : List Fd) : HPure Tryd.prog 4 [pI n, pP (fdl l)] (prOf [pB true]) := by
  refine hpure_of (nt := 50) Trydok Tryd.func4 rfl rfl (Nat.le_of_ble_eq_true rfl) ?_; refine hw_seq ?_; refine hw_region (E := TrydE) Trydok ?_; refine rq rfl rfl rfl rfl rfl ?_; refine rg_nil ?_; show HW _ _ _ _ _
  refine hw_joinK (ι := Unit) ⟨[(0, some _), (1, some _)], []⟩ ⟨⟨⟨_, rfl, CoR.refl _⟩, ⟨_, rfl, CoR.refl _⟩, trivial⟩, trivial⟩ (fun _i => ⟨[], []⟩) (fun _i => l.length ≤ 70) ?_ ?_
  · skip
    refine hw_seq ?_
    refine hw_bt 1 rfl fun hn => ?_
    refine hw_region (E := TrydE) Trydok ?_; refine rc rfl rfl rfl rfl rfl rfl good12 (cAwake3 hM) (CoL.refl _) rfl rfl ?_; (iterate 4 refine rq rfl rfl rfl rfl rfl ?_)
    refine rc rfl rfl rfl rfl rfl rfl good13 (cFew n l) (CoL.refl _) rfl rfl ?_; (iterate 3 refine rq rfl rfl rfl rfl rfl ?_); refine rsplit rfl rfl (fun r0 => ?_) (fun r0 => ?_)
    · skip
      have h0 := r0
      have h0 := not_t h0
      (iterate 4 refine rk rfl rfl rfl (gtf r0) ?_); (iterate 4 refine rk rfl rfl rfl rfl ?_); refine rk rfl rfl rfl (gtf r0) ?_; refine rq rfl rfl rfl rfl rfl ?_ (hp := r0); refine rg_nil ?_; show HW _ _ _ _ _
      refine hw_cond _ rfl (fun _ => ?_) (fun e => by cases e); refine hw_seq ?_; refine hw_region (E := TrydE) Trydok ?_; refine rc rfl rfl rfl rfl rfl rfl good12 (cAwake3 hM) (CoL.refl _) rfl rfl ?_
      refine rq rfl rfl rfl rfl rfl ?_; refine rg_nil ?_; show HW _ _ _ _ _; refine hw_ret ?_; refine ⟨.inr rfl, ?_⟩
      exact ⟨_, _, _, _, rfl, (by (repeat' apply And.intro) <;> first | trivial | exact Nat.le_of_ble_eq_true rfl | rfl), rfl, (by (repeat' apply And.intro) <;> first | trivial | exact Nat.le_of_ble_eq_true rfl | rfl), CoL.refl _⟩
    · skip
      have h0 := r0
      have h0 := not_f h0
      (iterate 4 refine rq rfl rfl rfl rfl (gff r0) ?_); refine rsplit rfl rfl (fun r1 => ?_) (fun r1 => ?_)
      · skip
        have h1 := r1
        have h1 := of_decide_eq_true h1
        try simp only [Int.toNat_natCast] at h1
        (iterate 2 refine rq rfl rfl rfl rfl (gtt r1) ?_); refine rc rfl rfl rfl rfl rfl rfl good19 (cRValid n l) (CoL.refl _) rfl (gtt r1) ?_; refine rq rfl rfl rfl rfl (gtt r1) ?_; refine rq rfl rfl rfl rfl (gff r0) ?_
        refine rq rfl rfl rfl rfl rfl ?_; refine rg_nil ?_; show HW _ _ _ _ _; refine hw_cond _ rfl (fun r2 => ?_) (fun r2 => ?_)
        · skip
          have h2 := r2
          have h2 := bif_f r0 h2
          have h2 := bif_t r1 h2
          have h2 := of_decide_eq_true h2
          try simp only [Int.toNat_natCast] at h2
          refine hw_seq ?_; refine hw_region (E := TrydE) Trydok ?_; refine rc rfl rfl rfl rfl rfl rfl good12 (cAwake3 hM) (CoL.refl _) rfl rfl ?_; refine rq rfl rfl rfl rfl rfl ?_; refine rg_nil ?_; show HW _ _ _ _ _
          refine hw_ret ?_; refine ⟨.inr rfl, ?_⟩
          exact ⟨_, _, _, _, rfl, (by (repeat' apply And.intro) <;> first | trivial | exact Nat.le_of_ble_eq_true rfl | rfl), rfl, (by (repeat' apply And.intro) <;> first | trivial | exact Nat.le_of_ble_eq_true rfl | rfl), CoL.refl _⟩
        · skip
          have h2 := r2
          have h2 := bif_f r0 h2
          have h2 := bif_t r1 h2
          have h2 := of_decide_eq_false h2
          try simp only [Int.toNat_natCast] at h2
          refine hw_skip ?_; refine ⟨(), ?_, ?_⟩
          · by_cases hfw : l.length ≤ 70 <;> simp_all
          · exact ⟨⟨⟨_, rfl, CoR.refl _⟩, ⟨_, rfl, CoR.refl _⟩, trivial⟩, trivial⟩
      · skip
        have h1 := r1
        have h1 := of_decide_eq_false h1
        try simp only [Int.toNat_natCast] at h1
        (iterate 4 refine rk rfl rfl rfl (gft r1) ?_); refine rq rfl rfl rfl rfl (gff r0) ?_ (hp := r1); refine rq rfl rfl rfl rfl rfl ?_; refine rg_nil ?_; show HW _ _ _ _ _
        refine hw_cond _ rfl (fun e => Bool.noConfusion ((bif_fk r0 rfl).symm.trans e)) (fun _ => ?_); refine hw_skip ?_; refine ⟨(), ?_, ?_⟩
        · by_cases hfw : l.length ≤ 70 <;> simp_all
        · exact ⟨⟨⟨_, rfl, CoR.refl _⟩, ⟨_, rfl, CoR.refl _⟩, trivial⟩, trivial⟩
  · rintro _ hlq
    refine hw_seq ?_; refine hw_region (E := TrydE) Trydok ?_; (iterate 2 refine rq rfl rfl rfl rfl rfl ?_); refine rc rfl rfl rfl rfl rfl rfl good15 ((cloneP15 l.length false (lf Fd.c l) (by omega))) (CoL.refl _) rfl rfl ?_
    refine rc rfl rfl rfl rfl rfl rfl good20 (cTVios n l) (CoL.refl _) rfl rfl ?_; (iterate 5 refine rq rfl rfl rfl rfl rfl ?_); refine rg_nil ?_; show HW _ _ _ _ _; refine hw_seq ?_; refine hw_region (E := TrydE) Trydok ?_
    (iterate 2 refine rq rfl rfl rfl rfl rfl ?_); refine rc rfl rfl rfl rfl rfl rfl good21 (cR23Vios n l) (CoL.refl _) rfl rfl ?_; (iterate 5 refine rq rfl rfl rfl rfl rfl ?_); refine rg_nil ?_; show HW _ _ _ _ _; refine hw_seq ?_
    refine hw_region (E := TrydE) Trydok ?_; (iterate 4 refine rq rfl rfl rfl rfl rfl ?_); refine rsplit rfl rfl (fun r3 => ?_) (fun r3 => ?_)
    · skip
      have h3 := r3
      have h3 := of_decide_eq_true h3
      try simp only [Int.toNat_natCast] at h3
      (iterate 2 refine rq rfl rfl rfl rfl (gtt r3) ?_); refine rc rfl rfl rfl rfl rfl rfl good22 (cSameF (viosE n l) (viosE n l)) (CoL.refl _) rfl (gtt r3) ?_; (iterate 2 refine rq rfl rfl rfl rfl rfl ?_); refine rg_nil ?_
      show HW _ _ _ _ _; refine hw_ret ?_; refine ⟨.inr rfl, ?_⟩
      exact ⟨_, _, _, _, rfl, (by (repeat' apply And.intro) <;> first | trivial | exact Nat.le_of_ble_eq_true rfl | rfl), rfl, (by (repeat' apply And.intro) <;> first | trivial | exact Nat.le_of_ble_eq_true rfl | rfl), ⟨ccb (by simp_all), trivial⟩⟩
    · skip
      have h3 := r3
      have h3 := of_decide_eq_false h3
      try simp only [Int.toNat_natCast] at h3
      (iterate 3 refine rk rfl rfl rfl (gft r3) ?_); refine rq rfl rfl rfl rfl rfl ?_ (hp := r3); refine rq rfl rfl rfl rfl rfl ?_; refine rg_nil ?_; show HW _ _ _ _ _; refine hw_ret ?_; refine ⟨.inr rfl, ?_⟩
      exact ⟨_, _, _, _, rfl, (by (repeat' apply And.intro) <;> first | trivial | exact Nat.le_of_ble_eq_true rfl | rfl), rfl, (by (repeat' apply And.intro) <;> first | trivial | exact Nat.le_of_ble_eq_true rfl | rfl), ⟨ccb (by simp_all), trivial⟩⟩
end Go.Hx
end
section
namespace Go.Hx
open Go.Proofs
theorem cTIsX (n : Int) (l : List Fd) : HPure Tryd.prog 14 [pI n, pP (fdl l)] (prOf [pB (decide (vErr n l = 0) && localS l (fullI n)), pI (vErr n l)]) := by
  have h := cTIs n l
  have e : (decide (vErr n l = 0) && decide (viosE n l = [])) = (decide (vErr n l = 0) && localS l (fullI n)) := by
    by_cases hv : vErr n l = 0
    · rw [third_eq hv]
    · rw [decide_eq_false hv]; rfl
  rw [e] at h
  exact h
end Go.Hx
end
section
namespace Go.Hx
open Go.Proofs
set_option maxRecDepth 100000
theorem cLaw6 (hM : ∀ k : List Fd, k.length ≤ 16777216 → HPure Tryd.prog 97 [pP (fdl k)] (prOf [pP (fdl (mrgS k))])) (n : Int) (l : List Fd) : HPure Tryd.prog 6 [pI n, pP (fdl l)] (prOf [pB true]) := by
  refine hpure_of (nt := 50) Trydok Tryd.func6 rfl rfl (Nat.le_of_ble_eq_true rfl) ?_; refine hw_seq ?_; refine hw_region (E := TrydE) Trydok ?_; refine rq rfl rfl rfl rfl rfl ?_; refine rg_nil ?_; show HW _ _ _ _ _
  refine hw_joinK (ι := Unit) ⟨[(0, some _), (1, some _)], []⟩ ⟨⟨⟨_, rfl, CoR.refl _⟩, ⟨_, rfl, CoR.refl _⟩, trivial⟩, trivial⟩ (fun _i => ⟨[], []⟩) (fun _i => l.length ≤ 70) ?_ ?_
  · skip
    refine hw_seq ?_
    refine hw_bt 1 rfl fun hn => ?_
    refine hw_region (E := TrydE) Trydok ?_; refine rc rfl rfl rfl rfl rfl rfl good12 (cAwake3 hM) (CoL.refl _) rfl rfl ?_; (iterate 4 refine rq rfl rfl rfl rfl rfl ?_)
    refine rc rfl rfl rfl rfl rfl rfl good13 (cFew n l) (CoL.refl _) rfl rfl ?_; (iterate 3 refine rq rfl rfl rfl rfl rfl ?_); refine rsplit rfl rfl (fun r0 => ?_) (fun r0 => ?_)
    · skip
      have h0 := r0
      have h0 := not_t h0
      (iterate 4 refine rk rfl rfl rfl (gtf r0) ?_); (iterate 4 refine rk rfl rfl rfl rfl ?_); refine rk rfl rfl rfl (gtf r0) ?_; refine rq rfl rfl rfl rfl rfl ?_ (hp := r0); refine rg_nil ?_; show HW _ _ _ _ _
      refine hw_cond _ rfl (fun _ => ?_) (fun e => by cases e); refine hw_seq ?_; refine hw_region (E := TrydE) Trydok ?_; refine rc rfl rfl rfl rfl rfl rfl good12 (cAwake3 hM) (CoL.refl _) rfl rfl ?_
      refine rq rfl rfl rfl rfl rfl ?_; refine rg_nil ?_; show HW _ _ _ _ _; refine hw_ret ?_; refine ⟨.inr rfl, ?_⟩
      exact ⟨_, _, _, _, rfl, (by (repeat' apply And.intro) <;> first | trivial | exact Nat.le_of_ble_eq_true rfl | rfl), rfl, (by (repeat' apply And.intro) <;> first | trivial | exact Nat.le_of_ble_eq_true rfl | rfl), CoL.refl _⟩
    · skip
      have h0 := r0
      have h0 := not_f h0
      (iterate 4 refine rq rfl rfl rfl rfl (gff r0) ?_); refine rsplit rfl rfl (fun r1 => ?_) (fun r1 => ?_)
      · skip
        have h1 := r1
        have h1 := of_decide_eq_true h1
        try simp only [Int.toNat_natCast] at h1
        (iterate 2 refine rq rfl rfl rfl rfl (gtt r1) ?_); refine rc rfl rfl rfl rfl rfl rfl good19 (cRValid n l) (CoL.refl _) rfl (gtt r1) ?_; refine rq rfl rfl rfl rfl (gtt r1) ?_; refine rq rfl rfl rfl rfl (gff r0) ?_
        refine rq rfl rfl rfl rfl rfl ?_; refine rg_nil ?_; show HW _ _ _ _ _; refine hw_cond _ rfl (fun r2 => ?_) (fun r2 => ?_)
        · skip
          have h2 := r2
          have h2 := bif_f r0 h2
          have h2 := bif_t r1 h2
          have h2 := of_decide_eq_true h2
          try simp only [Int.toNat_natCast] at h2
          refine hw_seq ?_; refine hw_region (E := TrydE) Trydok ?_; refine rc rfl rfl rfl rfl rfl rfl good12 (cAwake3 hM) (CoL.refl _) rfl rfl ?_; refine rq rfl rfl rfl rfl rfl ?_; refine rg_nil ?_; show HW _ _ _ _ _
          refine hw_ret ?_; refine ⟨.inr rfl, ?_⟩
          exact ⟨_, _, _, _, rfl, (by (repeat' apply And.intro) <;> first | trivial | exact Nat.le_of_ble_eq_true rfl | rfl), rfl, (by (repeat' apply And.intro) <;> first | trivial | exact Nat.le_of_ble_eq_true rfl | rfl), CoL.refl _⟩
        · skip
          have h2 := r2
          have h2 := bif_f r0 h2
          have h2 := bif_t r1 h2
          have h2 := of_decide_eq_false h2
          try simp only [Int.toNat_natCast] at h2
          refine hw_skip ?_; refine ⟨(), ?_, ?_⟩
          · by_cases hfw : l.length ≤ 70 <;> simp_all
          · exact ⟨⟨⟨_, rfl, CoR.refl _⟩, ⟨_, rfl, CoR.refl _⟩, trivial⟩, trivial⟩
      · skip
        have h1 := r1
        have h1 := of_decide_eq_false h1
        try simp only [Int.toNat_natCast] at h1
        (iterate 4 refine rk rfl rfl rfl (gft r1) ?_); refine rq rfl rfl rfl rfl (gff r0) ?_ (hp := r1); refine rq rfl rfl rfl rfl rfl ?_; refine rg_nil ?_; show HW _ _ _ _ _
        refine hw_cond _ rfl (fun e => Bool.noConfusion ((bif_fk r0 rfl).symm.trans e)) (fun _ => ?_); refine hw_skip ?_; refine ⟨(), ?_, ?_⟩
        · by_cases hfw : l.length ≤ 70 <;> simp_all
        · exact ⟨⟨⟨_, rfl, CoR.refl _⟩, ⟨_, rfl, CoR.refl _⟩, trivial⟩, trivial⟩
  · rintro _ hlq
    refine hw_seq ?_; refine hw_region (E := TrydE) Trydok ?_; (iterate 2 refine rq rfl rfl rfl rfl rfl ?_); refine rc rfl rfl rfl rfl rfl rfl good15 ((cloneP15 l.length false (lf Fd.c l) (by omega))) (CoL.refl _) rfl rfl ?_
    refine rc rfl rfl rfl rfl rfl rfl good24 (cTSynth hM n l) (CoL.refl _) rfl rfl ?_; (iterate 5 refine rq rfl rfl rfl rfl rfl ?_); refine rg_nil ?_; show HW _ _ _ _ _; refine hw_seq ?_; refine hw_region (E := TrydE) Trydok ?_
    (iterate 2 refine rq rfl rfl rfl rfl rfl ?_); refine rc rfl rfl rfl rfl rfl rfl good25 (cR23Synth n l) (CoL.refl _) rfl rfl ?_; (iterate 5 refine rq rfl rfl rfl rfl rfl ?_); refine rg_nil ?_; show HW _ _ _ _ _; refine hw_seq ?_
    refine hw_region (E := TrydE) Trydok ?_; (iterate 4 refine rq rfl rfl rfl rfl rfl ?_); refine rsplit rfl rfl (fun r3 => ?_) (fun r3 => ?_)
    · skip
      have h3 := r3
      have h3 := of_decide_eq_true h3
      try simp only [Int.toNat_natCast] at h3
      (iterate 2 refine rq rfl rfl rfl rfl (gtt r3) ?_); refine rc rfl rfl rfl rfl rfl rfl good26 (cSameS (synE n l) (synE n l)) (CoL.refl _) rfl (gtt r3) ?_; (iterate 2 refine rq rfl rfl rfl rfl rfl ?_); refine rg_nil ?_
      show HW _ _ _ _ _; refine hw_ret ?_; refine ⟨.inr rfl, ?_⟩
      exact ⟨_, _, _, _, rfl, (by (repeat' apply And.intro) <;> first | trivial | exact Nat.le_of_ble_eq_true rfl | rfl), rfl, (by (repeat' apply And.intro) <;> first | trivial | exact Nat.le_of_ble_eq_true rfl | rfl), ⟨ccb (by simp_all), trivial⟩⟩
    · skip
      have h3 := r3
      have h3 := of_decide_eq_false h3
      try simp only [Int.toNat_natCast] at h3
      (iterate 3 refine rk rfl rfl rfl (gft r3) ?_); refine rq rfl rfl rfl rfl rfl ?_ (hp := r3); refine rq rfl rfl rfl rfl rfl ?_; refine rg_nil ?_; show HW _ _ _ _ _; refine hw_ret ?_; refine ⟨.inr rfl, ?_⟩
      exact ⟨_, _, _, _, rfl, (by (repeat' apply And.intro) <;> first | trivial | exact Nat.le_of_ble_eq_true rfl | rfl), rfl, (by (repeat' apply And.intro) <;> first | trivial | exact Nat.le_of_ble_eq_true rfl | rfl), ⟨ccb (by simp_all), trivial⟩⟩
theorem cLaw11 (hM : ∀ k : List Fd, k.length ≤ 16777216 → HPure Tryd.prog 97 [pP (fdl k)] (prOf [pP (fdl (mrgS k))])) (n : Int) (l : List Fd) (p : AS) : HPure Tryd.prog 11 [pI n, pP (fdl l), pA p] (prOf [pB true]) := by
  refine hpure_of (nt := 43) Trydok Tryd.func11 rfl rfl (Nat.le_of_ble_eq_true rfl) ?_; refine hw_seq ?_; refine hw_region (E := TrydE) Trydok ?_; refine rq rfl rfl rfl rfl rfl ?_; refine rg_nil ?_; show HW _ _ _ _ _
  refine hw_joinK (ι := Unit) ⟨[(0, some _), (1, some _), (2, some _)], []⟩ ⟨⟨⟨_, rfl, CoR.refl _⟩, ⟨_, rfl, CoR.refl _⟩, ⟨_, rfl, CoR.refl _⟩, trivial⟩, trivial⟩ (fun _i => ⟨[], []⟩) (fun _i => l.length ≤ 70) ?_ ?_
  · skip
    refine hw_seq ?_
    refine hw_bt 1 rfl fun hn => ?_
    refine hw_region (E := TrydE) Trydok ?_; refine rc rfl rfl rfl rfl rfl rfl good12 (cAwake3 hM) (CoL.refl _) rfl rfl ?_; (iterate 4 refine rq rfl rfl rfl rfl rfl ?_)
    refine rc rfl rfl rfl rfl rfl rfl good13 (cFew n l) (CoL.refl _) rfl rfl ?_; (iterate 2 refine rq rfl rfl rfl rfl rfl ?_); refine rg_nil ?_; show HW _ _ _ _ _; refine hw_cond _ rfl (fun r0 => ?_) (fun r0 => ?_)
    · skip
      have h0 := r0
      have h0 := not_t h0
      refine hw_seq ?_; refine hw_region (E := TrydE) Trydok ?_; refine rc rfl rfl rfl rfl rfl rfl good12 (cAwake3 hM) (CoL.refl _) rfl rfl ?_; refine rq rfl rfl rfl rfl rfl ?_; refine rg_nil ?_; show HW _ _ _ _ _; refine hw_ret ?_
      refine ⟨.inr rfl, ?_⟩
      exact ⟨_, _, _, _, rfl, (by (repeat' apply And.intro) <;> first | trivial | exact Nat.le_of_ble_eq_true rfl | rfl), rfl, (by (repeat' apply And.intro) <;> first | trivial | exact Nat.le_of_ble_eq_true rfl | rfl), CoL.refl _⟩
    · skip
      have h0 := r0
      have h0 := not_f h0
      refine hw_skip ?_; refine ⟨(), ?_, ?_⟩
      · by_cases hfw : l.length ≤ 70 <;> simp_all
      · exact ⟨⟨⟨_, rfl, CoR.refl _⟩, ⟨_, rfl, CoR.refl _⟩, ⟨_, rfl, CoR.refl _⟩, trivial⟩, trivial⟩
  · rintro _ hlq
    refine hw_seq ?_; refine hw_region (E := TrydE) Trydok ?_; (iterate 2 refine rq rfl rfl rfl rfl rfl ?_); refine rc rfl rfl rfl rfl rfl rfl good15 ((cloneP15 l.length false (lf Fd.c l) (by omega))) (CoL.refl _) rfl rfl ?_
    refine rq rfl rfl rfl rfl rfl ?_; refine rc rfl rfl rfl rfl rfl rfl good42 (cTLocal n l p) (CoL.refl _) rfl rfl ?_; (iterate 5 refine rq rfl rfl rfl rfl rfl ?_); refine rg_nil ?_; show HW _ _ _ _ _; refine hw_seq ?_
    refine hw_region (E := TrydE) Trydok ?_; (iterate 3 refine rq rfl rfl rfl rfl rfl ?_); refine rc rfl rfl rfl rfl rfl rfl good43 (cR23Local n l p) (CoL.refl _) rfl rfl ?_; (iterate 5 refine rq rfl rfl rfl rfl rfl ?_)
    refine rg_nil ?_; show HW _ _ _ _ _; refine hw_seq ?_; refine hw_region (E := TrydE) Trydok ?_; (iterate 4 refine rq rfl rfl rfl rfl rfl ?_); refine rsplit rfl rfl (fun r1 => ?_) (fun r1 => ?_)
    · skip
      have h1 := r1
      (iterate 3 refine rq rfl rfl rfl rfl (gtt r1) ?_); (iterate 2 refine rq rfl rfl rfl rfl rfl ?_); refine rg_nil ?_; show HW _ _ _ _ _; refine hw_ret ?_; refine ⟨.inr rfl, ?_⟩
      exact ⟨_, _, _, _, rfl, (by (repeat' apply And.intro) <;> first | trivial | exact Nat.le_of_ble_eq_true rfl | rfl), rfl, (by (repeat' apply And.intro) <;> first | trivial | exact Nat.le_of_ble_eq_true rfl | rfl), ⟨ccb (by simp_all), trivial⟩⟩
    · skip
      have h1 := r1
      (iterate 3 refine rk rfl rfl rfl (gft r1) ?_); refine rq rfl rfl rfl rfl rfl ?_ (hp := r1); refine rq rfl rfl rfl rfl rfl ?_; refine rg_nil ?_; show HW _ _ _ _ _; refine hw_ret ?_; refine ⟨.inr rfl, ?_⟩
      exact ⟨_, _, _, _, rfl, (by (repeat' apply And.intro) <;> first | trivial | exact Nat.le_of_ble_eq_true rfl | rfl), rfl, (by (repeat' apply And.intro) <;> first | trivial | exact Nat.le_of_ble_eq_true rfl | rfl), ⟨ccb (by simp_all), trivial⟩⟩
theorem cLaw3 (hM : ∀ k : List Fd, k.length ≤ 16777216 → HPure Tryd.prog 97 [pP (fdl k)] (prOf [pP (fdl (mrgS k))])) (n : Int) (l : List Fd) : HPure Tryd.prog 3 [pI n, pP (fdl l)] (prOf [pB true]) := by
  refine hpure_of (nt := 66) Trydok Tryd.func3 rfl rfl (Nat.le_of_ble_eq_true rfl) ?_; refine hw_seq ?_; refine hw_region (E := TrydE) Trydok ?_; refine rq rfl rfl rfl rfl rfl ?_; refine rg_nil ?_; show HW _ _ _ _ _
  refine hw_joinK (ι := Unit) ⟨[(0, some _), (1, some _)], []⟩ ⟨⟨⟨_, rfl, CoR.refl _⟩, ⟨_, rfl, CoR.refl _⟩, trivial⟩, trivial⟩ (fun _i => ⟨[], []⟩) (fun _i => l.length ≤ 70) ?_ ?_
  · skip
    refine hw_seq ?_
    refine hw_bt 1 rfl fun hn => ?_
    refine hw_region (E := TrydE) Trydok ?_; refine rc rfl rfl rfl rfl rfl rfl good12 (cAwake3 hM) (CoL.refl _) rfl rfl ?_; (iterate 4 refine rq rfl rfl rfl rfl rfl ?_)
    refine rc rfl rfl rfl rfl rfl rfl good13 (cFew n l) (CoL.refl _) rfl rfl ?_; (iterate 2 refine rq rfl rfl rfl rfl rfl ?_); refine rg_nil ?_; show HW _ _ _ _ _; refine hw_cond _ rfl (fun r0 => ?_) (fun r0 => ?_)
    · skip
      have h0 := r0
      have h0 := not_t h0
      refine hw_seq ?_; refine hw_region (E := TrydE) Trydok ?_; refine rc rfl rfl rfl rfl rfl rfl good12 (cAwake3 hM) (CoL.refl _) rfl rfl ?_; refine rq rfl rfl rfl rfl rfl ?_; refine rg_nil ?_; show HW _ _ _ _ _; refine hw_ret ?_
      refine ⟨.inr rfl, ?_⟩
      exact ⟨_, _, _, _, rfl, (by (repeat' apply And.intro) <;> first | trivial | exact Nat.le_of_ble_eq_true rfl | rfl), rfl, (by (repeat' apply And.intro) <;> first | trivial | exact Nat.le_of_ble_eq_true rfl | rfl), CoL.refl _⟩
    · skip
      have h0 := r0
      have h0 := not_f h0
      refine hw_skip ?_; refine ⟨(), ?_, ?_⟩
      · by_cases hfw : l.length ≤ 70 <;> simp_all
      · exact ⟨⟨⟨_, rfl, CoR.refl _⟩, ⟨_, rfl, CoR.refl _⟩, trivial⟩, trivial⟩
  · rintro _ hlq
    refine hw_seq ?_; refine hw_region (E := TrydE) Trydok ?_; (iterate 2 refine rq rfl rfl rfl rfl rfl ?_); refine rc rfl rfl rfl rfl rfl rfl good15 ((cloneP15 l.length false (lf Fd.c l) (by omega))) (CoL.refl _) rfl rfl ?_
    refine rc rfl rfl rfl rfl rfl rfl good14 (cTIsX n l) (CoL.refl _) rfl rfl ?_; (iterate 5 refine rq rfl rfl rfl rfl rfl ?_); refine rg_nil ?_; show HW _ _ _ _ _; refine hw_seq ?_; refine hw_region (E := TrydE) Trydok ?_
    (iterate 2 refine rq rfl rfl rfl rfl rfl ?_); refine rc rfl rfl rfl rfl rfl rfl good16 (cR23Is n l) (CoL.refl _) rfl rfl ?_; (iterate 5 refine rq rfl rfl rfl rfl rfl ?_); refine rg_nil ?_; show HW _ _ _ _ _; refine hw_seq ?_
    refine hw_region (E := TrydE) Trydok ?_; (iterate 2 refine rq rfl rfl rfl rfl rfl ?_); refine rc rfl rfl rfl rfl rfl rfl good15 ((cloneP15 l.length false (lf Fd.c l) (by omega))) (CoL.refl _) rfl rfl ?_
    refine rc rfl rfl rfl rfl rfl rfl good17 (cTSecond n l) (CoL.refl _) rfl rfl ?_; (iterate 5 refine rq rfl rfl rfl rfl rfl ?_); refine rg_nil ?_; show HW _ _ _ _ _; refine hw_seq ?_; refine hw_region (E := TrydE) Trydok ?_
    (iterate 2 refine rq rfl rfl rfl rfl rfl ?_); refine rc rfl rfl rfl rfl rfl rfl good18 (cR23Second n l) (CoL.refl _) rfl rfl ?_; (iterate 5 refine rq rfl rfl rfl rfl rfl ?_); refine rg_nil ?_; show HW _ _ _ _ _; refine hw_seq ?_
    refine hw_region (E := TrydE) Trydok ?_; (iterate 4 refine rq rfl rfl rfl rfl rfl ?_); refine rsplit rfl rfl (fun r1 => ?_) (fun r1 => ?_)
    · skip
      have h1 := r1
      (iterate 3 refine rq rfl rfl rfl rfl (gtt r1) ?_); (iterate 2 refine rq rfl rfl rfl rfl rfl ?_); refine rsplit rfl rfl (fun r2 => ?_) (fun r2 => ?_)
      · skip
        have h2 := r2
        have h2 := bif_t r1 h2
        have h2 := of_decide_eq_true h2
        try simp only [Int.toNat_natCast] at h2
        (iterate 3 refine rq rfl rfl rfl rfl (gtt r2) ?_); (iterate 2 refine rq rfl rfl rfl rfl rfl ?_); refine rsplit rfl rfl (fun r3 => ?_) (fun r3 => ?_)
        · skip
          have h3 := r3
          have h3 := bif_t r2 h3
          (iterate 3 refine rq rfl rfl rfl rfl (gtt r3) ?_); (iterate 2 refine rq rfl rfl rfl rfl rfl ?_); refine rg_nil ?_; show HW _ _ _ _ _; refine hw_ret ?_; refine ⟨.inr rfl, ?_⟩
          exact ⟨_, _, _, _, rfl, (by (repeat' apply And.intro) <;> first | trivial | exact Nat.le_of_ble_eq_true rfl | rfl), rfl, (by (repeat' apply And.intro) <;> first | trivial | exact Nat.le_of_ble_eq_true rfl | rfl), ⟨ccb (by simp_all), trivial⟩⟩
        · skip
          have h3 := r3
          have h3 := bif_t r2 h3
          (iterate 3 refine rk rfl rfl rfl (gft r3) ?_); refine rq rfl rfl rfl rfl rfl ?_ (hp := r3); refine rq rfl rfl rfl rfl rfl ?_; refine rg_nil ?_; show HW _ _ _ _ _; refine hw_ret ?_; refine ⟨.inr rfl, ?_⟩
          exact ⟨_, _, _, _, rfl, (by (repeat' apply And.intro) <;> first | trivial | exact Nat.le_of_ble_eq_true rfl | rfl), rfl, (by (repeat' apply And.intro) <;> first | trivial | exact Nat.le_of_ble_eq_true rfl | rfl), ⟨ccb (by simp_all), trivial⟩⟩
      · skip
        have h2 := r2
        have h2 := bif_t r1 h2
        have h2 := of_decide_eq_false h2
        try simp only [Int.toNat_natCast] at h2
        (iterate 3 refine rk rfl rfl rfl (gft r2) ?_); refine rq rfl rfl rfl rfl rfl ?_ (hp := r2); refine rq rfl rfl rfl rfl rfl ?_; (iterate 3 refine rk rfl rfl rfl rfl ?_); (iterate 2 refine rq rfl rfl rfl rfl rfl ?_)
        refine rg_nil ?_; show HW _ _ _ _ _; refine hw_ret ?_; refine ⟨.inr rfl, ?_⟩
        exact ⟨_, _, _, _, rfl, (by (repeat' apply And.intro) <;> first | trivial | exact Nat.le_of_ble_eq_true rfl | rfl), rfl, (by (repeat' apply And.intro) <;> first | trivial | exact Nat.le_of_ble_eq_true rfl | rfl), ⟨ccb (by simp_all), trivial⟩⟩
    · skip
      have h1 := r1
      (iterate 3 refine rk rfl rfl rfl (gft r1) ?_); refine rq rfl rfl rfl rfl rfl ?_ (hp := r1); refine rq rfl rfl rfl rfl rfl ?_; (iterate 3 refine rk rfl rfl rfl rfl ?_); (iterate 2 refine rq rfl rfl rfl rfl rfl ?_)
      (iterate 3 refine rk rfl rfl rfl rfl ?_); (iterate 2 refine rq rfl rfl rfl rfl rfl ?_); refine rg_nil ?_; show HW _ _ _ _ _; refine hw_ret ?_; refine ⟨.inr rfl, ?_⟩
      exact ⟨_, _, _, _, rfl, (by (repeat' apply And.intro) <;> first | trivial | exact Nat.le_of_ble_eq_true rfl | rfl), rfl, (by (repeat' apply And.intro) <;> first | trivial | exact Nat.le_of_ble_eq_true rfl | rfl), ⟨ccb (by simp_all), trivial⟩⟩
end Go.Hx
end
section
namespace Go.Hx
open Go.Proofs
theorem local_all {l : List Fd} {p x : AS} (h : localS l p = true) (hx : sub x p) : badL l p x = false := by
  cases hb : badL l p x with
  | false => rfl
  | true => rw [local_f hx hb] at h; cases h
theorem mem_orL {ps : List AS} {k : AS} (h : k ∈ ps) : sub k (orL ps) := sub_bit.2 fun i hi hb => by
  unfold orL
  rw [orL_bit, Bool.or_eq_true]
  exact .inr (List.any_eq_true.2 ⟨k, h, hb⟩)
section
variable {n : Int} {l : List Fd}
theorem third_second (h : vErr n l = 0) (h3 : localS l (fullI n) = true) : secS n l = true := by
  obtain ⟨h0, h1, _⟩ := vErr_ok h
  unfold secS
  rw [List.all_eq_true]
  intro k hk
  have hkp := mem_orL hk
  have hkey : isKey n l k = true := by
    rw [keysL_t h, mem_ord] at hk
    exact (List.mem_filter.1 hk).2
  have hsk : skey n l k = true := by
    unfold isKey at hkey
    rw [Bool.and_eq_true] at hkey
    exact hkey.1
  have hkf : sub k (fullI n) := (of_decide_eq_true hsk).2.1
  refine secK_t fun a ha hka => ?_
  have hxk : sub (noA k a) k := noA_sub
  have hxf := sub_trans hxk hkf
  have hna : a < n.toNat := by
    have hf := sub_bit.1 hkf a ha hka
    rw [full_bit h0 h1 ha] at hf
    exact of_decide_eq_true hf
  have hns : skey n l (noA k a) = false := by
    cases hs : skey n l (noA k a) with
    | false => rfl
    | true => rw [isKey_f2 hna hka hs] at hkey; cases hkey
  rw [skey_supP h hxf] at hns
  have hb := local_all h3 hxf
  unfold badL at hb
  rw [hns, Bool.not_false, Bool.true_and, decide_eq_false_iff_not] at hb
  have hsub : sub ((clo l (noA k a) &&& fullI n) &&& ~~~noA k a) (primeS l (fullI n)) := Classical.byContradiction fun hc => hb hc
  rw [prime_eq h] at hkp ⊢
  refine sub_bit.2 fun i hi hc => ?_
  cases hx : (noA k a).getLsbD i with
  | true => exact sub_bit.1 hkp i hi (sub_bit.1 hxk i hi hx)
  | false =>
    refine sub_bit.1 hsub i hi ?_
    rw [BitVec.getLsbD_and, BitVec.getLsbD_and, BitVec.getLsbD_not, decide_eq_true hi, hc, sub_bit.1 (clo_full h hxf) i hi hc, hx]
    rfl
theorem vio_law (h : vErr n l = 0) : (decide (vErr n l = 0) && localS l (fullI n)) = decide (viosE n l = []) ∧ ((decide (vErr n l = 0) && localS l (fullI n)) = true → secR n l = true) := by
  rw [decide_eq_true h, Bool.true_and]
  exact ⟨third_eq h, fun h3 => secR_2 h (third_second h h3)⟩
end
end Go.Hx
end
section
namespace Go.Hx
open Go.Proofs
section
variable {d : Dps}
theorem cVios5 (h : d.l.length ≤ 6) : HPure Tryd.prog 20 [pI d.num, pP (fdl d.fds)] (prOf [pP (fdl (viosE d.num d.fds)), pI 0]) := by
  have hh := cTVios d.num d.fds
  rw [dps_ok h] at hh
  exact hh
theorem cIs5 (h : d.l.length ≤ 6) : HPure Tryd.prog 14 [pI d.num, pP (fdl d.fds)] (prOf [pB (decide ((((viosE d.num d.fds).length : Nat) : Int) = 0)), pI 0]) := by
  have hh := cTIs d.num d.fds
  rw [dps_ok h] at hh
  rw [len_nil]
  exact hh
theorem cSecond5 (h : d.l.length ≤ 6) : HPure Tryd.prog 17 [pI d.num, pP (fdl d.fds)] (prOf [pB (secR d.num d.fds), pI 0]) := by
  have hh := cTSecond d.num d.fds
  rw [dps_ok h] at hh
  exact hh
theorem sec5 (h : d.l.length ≤ 6) (hv : ((viosE d.num d.fds).length : Int) = 0) : secR d.num d.fds = true := by
  have h1 := vio_law (dps_ok h)
  refine h1.2 ?_
  rw [h1.1, ← len_nil]
  exact decide_eq_true hv
end
end Go.Hx
end
section
namespace Go.Hx
open Go.Proofs
set_option maxRecDepth 100000
theorem cLaw5 (hM : ∀ k : List Fd, k.length ≤ 16777216 → HPure Tryd.prog 97 [pP (fdl k)] (prOf [pP (fdl (mrgS k))])) (d : Dps) (hl : d.l.length ≤ 16777216) : HPure Tryd.prog 5 [d.pc] (prOf [pB true]) := by
  refine hpure_of (nt := 67) Trydok Tryd.func5 rfl rfl (Nat.le_of_ble_eq_true rfl) ?_; refine hw_seq ?_; refine hw_region (E := TrydE) Trydok ?_; refine rm 0 rfl rfl rfl rfl rfl rfl ?_; refine rq rfl rfl rfl rfl rfl ?_
  refine rg_nil ?_; show HW _ _ _ _ _; refine hw_seq ?_; refine hw_region (E := TrydE) Trydok ?_; refine rq rfl rfl rfl rfl rfl ?_; refine rc rfl rfl rfl rfl rfl rfl good23 (cOf d hl) (CoL.refl _) rfl rfl ?_
  (iterate 7 refine rq rfl rfl rfl rfl rfl ?_); refine rg_nil ?_; show HW _ _ _ _ _; (iterate 2 refine hw_seq ?_); refine hw_region (E := TrydE) Trydok ?_
  refine rc rfl rfl rfl rfl rfl rfl good12 (cAwake3 hM) (CoL.refl _) rfl rfl ?_; (iterate 5 refine rq rfl rfl rfl rfl rfl ?_); refine rg_nil ?_; show HW _ _ _ _ _; refine hw_cond _ rfl (fun r0 => ?_) (fun r0 => ?_)
  · skip
    have h0 := r0
    have h0 := not_t h0
    refine hw_seq ?_; refine hw_region (E := TrydE) Trydok ?_; refine rc rfl rfl rfl rfl rfl rfl good12 (cAwake3 hM) (CoL.refl _) rfl rfl ?_; refine rq rfl rfl rfl rfl rfl ?_; refine rg_nil ?_; show HW _ _ _ _ _; refine hw_ret ?_
    refine ⟨.inr rfl, ?_⟩
    exact ⟨_, _, _, _, rfl, (by (repeat' apply And.intro) <;> first | trivial | exact Nat.le_of_ble_eq_true rfl | rfl), rfl, (by (repeat' apply And.intro) <;> first | trivial | exact Nat.le_of_ble_eq_true rfl | rfl), CoL.refl _⟩
  · skip
    have h0 := r0
    have h0 := not_f h0
    have hd : d.l.length ≤ 6 := of_decide_eq_true h0
    have hs5 := sec5 hd
    refine hw_skip ?_; show HW _ _ _ _ _; refine hw_seq ?_; refine hw_region (E := TrydE) Trydok ?_; (iterate 2 refine rq rfl rfl rfl rfl rfl ?_); refine rc rfl rfl rfl rfl rfl rfl good20 (cVios5 hd) (CoL.refl _) rfl rfl ?_
    (iterate 5 refine rq rfl rfl rfl rfl rfl ?_); refine rg_nil ?_; show HW _ _ _ _ _; refine hw_seq ?_; refine hw_region (E := TrydE) Trydok ?_; (iterate 2 refine rq rfl rfl rfl rfl rfl ?_)
    refine rc rfl rfl rfl rfl rfl rfl good14 (cIs5 hd) (CoL.refl _) rfl rfl ?_; (iterate 5 refine rq rfl rfl rfl rfl rfl ?_); refine rg_nil ?_; show HW _ _ _ _ _; refine hw_seq ?_; refine hw_region (E := TrydE) Trydok ?_
    (iterate 2 refine rq rfl rfl rfl rfl rfl ?_); refine rc rfl rfl rfl rfl rfl rfl good17 (cSecond5 hd) (CoL.refl _) rfl rfl ?_; (iterate 5 refine rq rfl rfl rfl rfl rfl ?_); refine rg_nil ?_; show HW _ _ _ _ _; refine hw_seq ?_
    refine hw_region (E := TrydE) Trydok ?_; (iterate 7 refine rq rfl rfl rfl rfl rfl ?_); (iterate 2 refine rq rfl rfl rfl rfl (gtt (bif_tk rfl rfl)) ?_); (iterate 2 refine rq rfl rfl rfl rfl rfl ?_)
    (iterate 5 refine rq rfl rfl rfl rfl (gtt (bif_tk (bif_tk rfl rfl) rfl)) ?_); (iterate 2 refine rq rfl rfl rfl rfl rfl ?_); refine rsplit rfl rfl (fun r1 => ?_) (fun r1 => ?_)
    · skip
      have h1 := r1
      have h1 := bif_t (bif_tk (bif_tk rfl rfl) rfl) h1
      (iterate 3 refine rq rfl rfl rfl rfl (gtt r1) ?_); refine rsplit rfl rfl (fun r2 => ?_) (fun r2 => ?_)
      · skip
        have h2 := r2
        have h2 := not_t h2
        refine rk rfl rfl rfl (gtf r2) ?_; refine rq rfl rfl rfl rfl (gtt r1) ?_ (hp := r2); (iterate 2 refine rq rfl rfl rfl rfl rfl ?_); refine rg_nil ?_; show HW _ _ _ _ _; refine hw_ret ?_; refine ⟨.inr rfl, ?_⟩
        exact ⟨_, _, _, _, rfl, (by (repeat' apply And.intro) <;> first | trivial | exact Nat.le_of_ble_eq_true rfl | rfl), rfl, (by (repeat' apply And.intro) <;> first | trivial | exact Nat.le_of_ble_eq_true rfl | rfl), ⟨ccb (by simp_all), trivial⟩⟩
      · skip
        have h2 := r2
        have h2 := not_f h2
        refine rq rfl rfl rfl rfl (gff r2) ?_; refine rq rfl rfl rfl rfl (gtt r1) ?_; (iterate 2 refine rq rfl rfl rfl rfl rfl ?_); refine rg_nil ?_; show HW _ _ _ _ _; refine hw_ret ?_; refine ⟨.inr rfl, ?_⟩
        exact ⟨_, _, _, _, rfl, (by (repeat' apply And.intro) <;> first | trivial | exact Nat.le_of_ble_eq_true rfl | rfl), rfl, (by (repeat' apply And.intro) <;> first | trivial | exact Nat.le_of_ble_eq_true rfl | rfl), ⟨ccb (by simp_all), trivial⟩⟩
    · skip
      have h1 := r1
      have h1 := bif_t (bif_tk (bif_tk rfl rfl) rfl) h1
      (iterate 3 refine rk rfl rfl rfl (gft r1) ?_); refine rk rfl rfl rfl rfl ?_; refine rk rfl rfl rfl (gft r1) ?_; refine rq rfl rfl rfl rfl rfl ?_ (hp := r1); refine rq rfl rfl rfl rfl rfl ?_; refine rg_nil ?_; show HW _ _ _ _ _
      refine hw_ret ?_; refine ⟨.inr rfl, ?_⟩
      exact ⟨_, _, _, _, rfl, (by (repeat' apply And.intro) <;> first | trivial | exact Nat.le_of_ble_eq_true rfl | rfl), rfl, (by (repeat' apply And.intro) <;> first | trivial | exact Nat.le_of_ble_eq_true rfl | rfl), ⟨ccb (by simp_all), trivial⟩⟩
end Go.Hx
end
section
namespace Go.Hx
theorem mem_maxl {L : List AS} {x : AS} : x ∈ maxl L ↔ x ∈ L ∧ ∀ y ∈ L, sub x y → x = y := by
  unfold maxl keepS worseF
  rw [List.mem_filter, mem_ord, Bool.not_eq_true', List.any_eq_false]
  constructor
  · rintro ⟨h1, h2⟩
    refine ⟨h1, fun y hy hs => Classical.byContradiction fun hne => h2 y (mem_ord.2 hy) ?_⟩
    rw [Bool.and_eq_true, decide_eq_true_iff]
    exact ⟨hne, decide_eq_true hs⟩
  · rintro ⟨h1, h2⟩
    refine ⟨h1, fun y hy hc => ?_⟩
    rw [Bool.and_eq_true, decide_eq_true_iff] at hc
    exact hc.1 (h2 y (mem_ord.1 hy) (of_decide_eq_true hc.2))
theorem maxl_ordd (L : List AS) : Ordd (maxl L) := by
  unfold maxl keepS
  exact (ordd_ord L).sublist List.filter_sublist
theorem maxl_maxl (L : List AS) : maxl (maxl L) = maxl L := by
  refine ordd_unique (maxl_ordd _) (maxl_ordd _) fun x => ?_
  rw [mem_maxl (L := maxl L)]
  constructor
  · exact fun h => h.1
  · exact fun h => ⟨h, fun y hy hs => (mem_maxl.1 h).2 y (mem_maxl.1 hy).1 hs⟩
theorem under_maxl {L : List AS} : ∀ (n : Nat) (x : AS), x ∈ L → 4294967296 - x.toNat ≤ n → ∃ y ∈ maxl L, sub x y
  | 0, x, _, h => by have := x.isLt; omega
  | n + 1, x, hx, h => by
    by_cases hm : x ∈ maxl L
    · exact ⟨x, hm, sub_refl x⟩
    · have : ∃ y ∈ L, sub x y ∧ x ≠ y := by
        apply Classical.byContradiction
        intro hn
        exact hm (mem_maxl.2 ⟨hx, fun y hy hs => Classical.byContradiction fun hne => hn ⟨y, hy, hs, hne⟩⟩)
      obtain ⟨y, hy, hs, hne⟩ := this
      have hlt := sub_lt hs hne
      have hyl := y.isLt
      obtain ⟨z, hz, hyz⟩ := under_maxl n y hy (by omega)
      exact ⟨z, hz, sub_trans hs hyz⟩
theorem in_maxl {L : List AS} {x : AS} (h : x ∈ L) : ∃ y ∈ maxl L, sub x y := under_maxl 4294967296 x h (by omega)
section
variable {n : Int} {l : List Fd}
theorem lessK_key (h : skey n l (fullI n) = true) : ∀ k, skey n l (lessK n l (fullI n) k) = true
  | 0 => h
  | k + 1 => by
    rw [lessK_succ]
    unfold rkStep
    split
    · assumption
    · exact lessK_key h k
theorem rkS_key (h : vErr n l = 0) : skey n l (rkS n l (fullI n)) = true := by
  rw [(rk_3 h (full_skey h)).1]
  exact lessK_key (full_skey h) _
theorem synP_in (h : vErr n l = 0) : ∀ x ∈ synP n l, sub x (fullI n) := fun x hx => by
  have hp : ∀ x ∈ ptsL n l, sub x (fullI n) := fun x hx => by
    unfold ptsL at hx
    obtain ⟨f, hf, rfl⟩ := List.mem_map.1 hx
    unfold canE at hf
    rw [minE_t h] at hf
    obtain ⟨h1, h2⟩ := mrg_in (minS_in h) (minS_inR h) f hf
    exact or_sub h1 h2
  unfold synP at hx
  split at hx
  · exact hp x hx
  · rcases List.mem_append.1 hx with hx | hx
    · exact hp x hx
    · rw [List.mem_singleton] at hx
      subst hx
      exact (of_decide_eq_true (rkS_key h)).2.1
theorem synP_key (h : vErr n l = 0) : ∃ x ∈ synP n l, skey n l x = true := by
  unfold synP
  split
  · rename_i hs
    unfold supAt at hs
    rw [List.take_length] at hs
    obtain ⟨f, hf, hk⟩ := List.any_eq_true.1 hs
    exact ⟨pt f, List.mem_map.2 ⟨f, hf, rfl⟩, hk⟩
  · exact ⟨_, List.mem_append.2 (.inr (List.mem_singleton.2 rfl)), rkS_key h⟩
theorem synE_key (h : vErr n l = 0) : ∃ x ∈ synE n l, skey n l x = true := by
  obtain ⟨x, hx, hk⟩ := synP_key h
  obtain ⟨y, hy, hs⟩ := in_maxl hx
  rw [synE_t h]
  refine ⟨y, hy, ?_⟩
  have hyf := synP_in h y (mem_maxl.1 hy).1
  refine decide_eq_true ⟨h, hyf, sub_antisymm (clo_full h hyf) ?_⟩
  rw [← (of_decide_eq_true hk).2.2]
  exact clo_mono hs
theorem synE_max (h : vErr n l = 0) : maxl (synE n l) = synE n l := by rw [synE_t h]; exact maxl_maxl _
theorem mgR_bit {k : List Fd} {s : AS} {f : Fd} (hf : f ∈ k) (hs : f.lhs = s) : sub f.rhs (mgR k s) := by
  have : ∀ (q : List Fd) (a : AS), (sub f.rhs a ∨ f ∈ q) → sub f.rhs (q.foldl (fun a f => a ||| f.rhs) a) := by
    intro q
    induction q with
    | nil => intro a h; rcases h with h | h; · exact h
             · cases h
    | cons g q ih =>
      intro a h
      refine ih _ ?_
      rcases h with h | h
      · exact .inl (sub_trans h sub_or_l)
      · rcases List.mem_cons.1 h with rfl | h
        · exact .inl sub_or_r
        · exact .inr h
  unfold mgR
  exact this _ 0 (.inr (List.mem_filter.2 ⟨hf, decide_eq_true hs⟩))
theorem min_part (h : vErr n l = 0) {f : Fd} (hf : f ∈ minS l) : ∃ x ∈ synP n l, sub f.rhs x := by
  have hm : mgF (minE n l) f.lhs ∈ canE n l := by
    unfold canE mrgS
    rw [minE_t h]
    exact List.mem_map.2 ⟨f.lhs, mem_ord.2 (List.mem_map.2 ⟨f, hf, rfl⟩), rfl⟩
  refine ⟨pt (mgF (minE n l) f.lhs), ?_, ?_⟩
  · have : pt (mgF (minE n l) f.lhs) ∈ ptsL n l := List.mem_map.2 ⟨_, hm, rfl⟩
    unfold synP
    split
    · exact this
    · exact List.mem_append.2 (.inl this)
  · unfold pt mgF
    refine sub_trans (mgR_bit (k := minE n l) (by rw [minE_t h]; exact hf) rfl) sub_or_r
theorem orL_in {L : List AS} {t : AS} (h : ∀ x ∈ L, sub x t) : sub (orL L) t := sub_bit.2 fun i hi hb => by
  unfold orL at hb
  rw [orL_bit, Bool.or_eq_true] at hb
  rcases hb with hb | hb
  · simp at hb
  · obtain ⟨x, hx, hxb⟩ := List.any_eq_true.1 hb
    exact sub_bit.1 (h x hx) i hi hxb
theorem synE_all (h : vErr n l = 0) : orL (synE n l) = fullI n := by
  rw [synE_t h]
  refine sub_antisymm (orL_in fun x hx => synP_in h x (mem_maxl.1 hx).1) ?_
  have hup : ∀ x ∈ synP n l, sub x (orL (synS n l)) := fun x hx => by
    obtain ⟨y, hy, hs⟩ := in_maxl hx
    exact sub_trans hs (mem_orL hy)
  obtain ⟨k, hk, hkk⟩ := synP_key h
  have hc : clo l k = fullI n := (of_decide_eq_true hkk).2.2
  rw [← hc, ← clo_min]
  refine clo_least (fun f hf _ => ?_) (hup k hk)
  obtain ⟨x, hx, hs⟩ := min_part h hf
  exact sub_trans hs (hup x hx)
end
end Go.Hx
end
