/- A part of the proof: lemmas for the theorem of this claim, merged by a program of ours out of W26, W27, W28, W29, W31, W33, Sp9, W30. -/
import Derived.Test.YtdcdbghdgjlhhaaGreatN19
import Derived.Test.YtdcdbghdgjlhhaaGreatN23
import Derived.Test.YtdcdbghdgjlhhaaGreatN28
set_option linter.all false
section
namespace Go.Hx
open Go.Proofs
set_option maxRecDepth 100000
set_option maxHeartbeats 2000000
theorem good48 : goodFn Tryz.prog 48 := ⟨Tryz.f48, Tryz.func48, by kernel_rfl, by kernel_rfl⟩
theorem c48h (x : Str) (s : ByteArray) (id a : Int) (v : Val) (hx : SOk x) (hck : (chg4 s (bfR x.db s id) a v).ok) : HFun Tryz.prog 48 [.one (.ptr 1000 0), .one (.p (.raw (.string s))), .agg [.p (.raw (.int .i64 id)), .p (.raw (.int .i64 a))], v.pc.toH] x.objs (.v (.one (.p (.raw (.int .i64 (cgE x s id a v)))))) (cgS x s id a v).objs [1000] := by
  refine hfun_of (nt := 55) Tryzok Tryz.func48 rfl rfl (Nat.le_of_ble_eq_true rfl) rfl ?_; refine hw_seq ?_; refine hw_region (E := TryzE) Tryzok ?_; refine rm 0 rfl rfl rfl rfl rfl rfl ?_; refine rm 1 rfl rfl rfl rfl rfl rfl ?_
  refine rq rfl rfl rfl rfl rfl ?_; refine rg_nil ?_; show HW _ _ _ _ _; refine hw_seq ?_; refine hw_region (E := TryzE) Tryzok ?_; (iterate 4 refine rq rfl rfl rfl rfl rfl ?_)
  refine rg_fcall rfl rfl rfl rfl rfl rfl good58 (c58h x s id hx.db) (CoHCL.refl _) ⟨⟨_, rfl, CoO.refl _⟩, ⟨_, rfl, CoO.refl _⟩, ⟨_, rfl, CoO.refl _⟩, ⟨_, rfl, CoO.refl _⟩, trivial⟩ rfl rfl ?_
  (iterate 3 refine rq rfl rfl rfl rfl rfl ?_); refine rm 2 rfl rfl rfl rfl rfl rfl ?_; refine rs rfl rfl rfl rfl rfl ?_; refine rq rfl rfl rfl rfl rfl ?_; refine rg_nil ?_; show HW _ _ _ _ _; (iterate 2 refine hw_seq ?_)
  refine hw_region (E := TryzE) Tryzok ?_; (iterate 2 refine rq rfl rfl rfl rfl rfl ?_); refine rg_nil ?_; show HW _ _ _ _ _; refine hw_cond _ rfl (fun r0 => ?_) (fun r0 => ?_)
  · skip
    have h0 := r0
    have h0 := of_decide_eq_false (not_t h0)
    try simp only [Int.toNat_natCast] at h0
    refine hw_seq ?_; refine hw_region (E := TryzE) Tryzok ?_; (iterate 2 refine rq rfl rfl rfl rfl rfl ?_); refine rg_nil ?_; show HW _ _ _ _ _; refine hw_ret ?_; refine ⟨.inr rfl, ?_⟩
    rw [show cgE x s id a v = bfE x.db s id from if_pos (by simp_all), show cgS x s id a v = x from if_pos (by simp_all)]
    exact ⟨_, _, rfl, (by (repeat' apply And.intro) <;> first | trivial | exact Nat.le_of_ble_eq_true rfl), CoR.refl _, ⟨⟨_, rfl, CoO.refl _⟩, ⟨_, rfl, CoO.refl _⟩, ⟨_, rfl, CoO.refl _⟩, ⟨_, rfl, CoO.refl _⟩, trivial⟩⟩
  · skip
    have h0 := r0
    have h0 := of_decide_eq_true (not_f h0)
    try simp only [Int.toNat_natCast] at h0
    have hb0 : bfE x.db s id = 0 := by simp_all
    refine hw_skip ?_; show HW _ _ _ _ _; (iterate 2 refine hw_seq ?_); refine hw_draw (E := TryzE) Tryzok Tryzmixed [0, 1, 2, 3, 4, 5, 6, 7, 8, 9, 10, 11, 12, 13, 14, 15, 16, 17, 18, 19, 20, 21, 22, 23, 24] ?_
    (iterate 4 refine rq rfl rfl rfl rfl rfl ?_); refine rsplit rfl rfl (fun r1 => ?_) (fun r1 => ?_)
    · skip
      have h1 := r1
      have h1 := of_decide_eq_true h1
      try simp only [Int.toNat_natCast] at h1
      (iterate 6 refine rq rfl rfl rfl rfl (gtt r1) ?_); (iterate 2 refine rq rfl rfl rfl rfl rfl ?_); refine rsplit rfl rfl (fun r2 => ?_) (fun r2 => ?_)
      · skip
        have h2 := r2
        have h2 := bif_t r1 h2
        have h2 := of_decide_eq_true h2
        try simp only [Int.toNat_natCast] at h2
        refine rq rfl rfl rfl rfl (gtt r2) ?_; refine rc rfl rfl rfl rfl rfl rfl good76 (c76 _) (CoL.refl _) rfl (gtt r2) ?_; (iterate 2 refine rq rfl rfl rfl rfl rfl ?_); refine rsplit rfl rfl (fun r3 => ?_) (fun r3 => ?_)
        · skip
          have h3 := r3
          have h3 := bif_t r2 h3
          (iterate 8 refine rq rfl rfl rfl rfl (gtt r3) ?_); refine rq rfl rfl rfl rfl rfl ?_; refine rg_nil ?_; refine ⟨by kernel_rfl, ?_⟩; show HW _ _ _ _ _; refine hw_cond _ rfl (fun r4 => ?_) (fun r4 => ?_)
          · skip
            have h4 := r4
            have h4 := bif_t r3 h4
            refine hw_seq ?_; refine hw_region (E := TryzE) Tryzok ?_; refine rq rfl rfl rfl rfl rfl ?_; refine rg_nil ?_; show HW _ _ _ _ _; refine hw_ret ?_; refine ⟨.inr rfl, ?_⟩
            have hsm : sameV (bfR x.db s id) a v = true := by simp_all [sameV, Val.eq_iff]
            rw [show cgE x s id a v = 0 by rw [cgE, if_neg (by simp [hb0]), if_pos hsm], show cgS x s id a v = x by rw [cgS, if_neg (by simp [hb0]), if_pos hsm]]
            exact ⟨_, _, rfl, (by (repeat' apply And.intro) <;> first | trivial | exact Nat.le_of_ble_eq_true rfl), CoR.refl _, ⟨⟨_, rfl, CoO.refl _⟩, ⟨_, rfl, CoO.refl _⟩, ⟨_, rfl, CoO.refl _⟩, ⟨_, rfl, CoO.refl _⟩, trivial⟩⟩
          · skip
            have h4 := r4
            have h4 := bif_t r3 h4
            refine hw_skip ?_; show HW _ _ _ _ _; refine hw_seq ?_; refine hw_region (E := TryzE) Tryzok ?_; (iterate 7 refine rq rfl rfl rfl rfl rfl ?_)
            refine rg_fcall rfl rfl rfl rfl rfl rfl good57 (c57h x (chg4 s (bfR x.db s id) a v) hx.db hck hx.dn hx.nw) (⟨CoHC.refl _, ⟨CoH.refl _, CoH.refl _, CoH.refl _, co_nil, co_nil, CoH.refl _, CoH.refl _, CoH.refl _, CoH.refl _, CoH.refl _, CoH.refl _, trivial⟩, trivial⟩) ⟨⟨_, rfl, CoO.refl _⟩, ⟨_, rfl, CoO.refl _⟩, ⟨_, rfl, CoO.refl _⟩, ⟨_, rfl, CoO.refl _⟩, trivial⟩ rfl rfl ?_
            refine rq rfl rfl rfl rfl rfl ?_; refine rg_nil ?_; show HW _ _ _ _ _; refine hw_ret ?_; refine ⟨.inr rfl, ?_⟩
            have hsm : ¬ sameV (bfR x.db s id) a v = true := by simp_all [sameV, Val.eq_iff] <;> (intros; omega)
            rw [show cgE x s id a v = appErr x.db (chg4 s (bfR x.db s id) a v) by rw [cgE, if_neg (by simp [hb0]), if_neg hsm], show cgS x s id a v = pfS x (chg4 s (bfR x.db s id) a v) by rw [cgS, if_neg (by simp [hb0]), if_neg hsm]]
            exact ⟨_, _, rfl, (by (repeat' apply And.intro) <;> first | trivial | exact Nat.le_of_ble_eq_true rfl), CoR.refl _, ⟨⟨_, rfl, CoO.refl _⟩, ⟨_, rfl, CoO.refl _⟩, ⟨_, rfl, CoO.refl _⟩, ⟨_, rfl, CoO.refl _⟩, trivial⟩⟩
        · skip
          have h3 := r3
          have h3 := bif_t r2 h3
          (iterate 8 refine rk rfl rfl rfl (gft r3) ?_); refine rq rfl rfl rfl rfl rfl ?_ (hp := r3); refine rg_nil ?_; refine ⟨by kernel_rfl, ?_⟩; show HW _ _ _ _ _; refine hw_cond _ rfl (fun e => by cases e) (fun _ => ?_)
          refine hw_skip ?_; show HW _ _ _ _ _; refine hw_seq ?_; refine hw_region (E := TryzE) Tryzok ?_; (iterate 7 refine rq rfl rfl rfl rfl rfl ?_)
          refine rg_fcall rfl rfl rfl rfl rfl rfl good57 (c57h x (chg4 s (bfR x.db s id) a v) hx.db hck hx.dn hx.nw) (⟨CoHC.refl _, ⟨CoH.refl _, CoH.refl _, CoH.refl _, co_nil, co_nil, CoH.refl _, CoH.refl _, CoH.refl _, CoH.refl _, CoH.refl _, CoH.refl _, trivial⟩, trivial⟩) ⟨⟨_, rfl, CoO.refl _⟩, ⟨_, rfl, CoO.refl _⟩, ⟨_, rfl, CoO.refl _⟩, ⟨_, rfl, CoO.refl _⟩, trivial⟩ rfl rfl ?_
          refine rq rfl rfl rfl rfl rfl ?_; refine rg_nil ?_; show HW _ _ _ _ _; refine hw_ret ?_; refine ⟨.inr rfl, ?_⟩
          have hsm : ¬ sameV (bfR x.db s id) a v = true := by simp_all [sameV, Val.eq_iff] <;> (intros; omega)
          rw [show cgE x s id a v = appErr x.db (chg4 s (bfR x.db s id) a v) by rw [cgE, if_neg (by simp [hb0]), if_neg hsm], show cgS x s id a v = pfS x (chg4 s (bfR x.db s id) a v) by rw [cgS, if_neg (by simp [hb0]), if_neg hsm]]
          exact ⟨_, _, rfl, (by (repeat' apply And.intro) <;> first | trivial | exact Nat.le_of_ble_eq_true rfl), CoR.refl _, ⟨⟨_, rfl, CoO.refl _⟩, ⟨_, rfl, CoO.refl _⟩, ⟨_, rfl, CoO.refl _⟩, ⟨_, rfl, CoO.refl _⟩, trivial⟩⟩
      · skip
        have h2 := r2
        have h2 := bif_t r1 h2
        have h2 := of_decide_eq_false h2
        try simp only [Int.toNat_natCast] at h2
        (iterate 2 refine rk rfl rfl rfl (gft r2) ?_); refine rq rfl rfl rfl rfl rfl ?_ (hp := r2); refine rq rfl rfl rfl rfl rfl ?_; (iterate 8 refine rk rfl rfl rfl rfl ?_); refine rq rfl rfl rfl rfl rfl ?_; refine rg_nil ?_
        refine ⟨by kernel_rfl, ?_⟩; show HW _ _ _ _ _; refine hw_cond _ rfl (fun e => by cases e) (fun _ => ?_); refine hw_skip ?_; show HW _ _ _ _ _; refine hw_seq ?_; refine hw_region (E := TryzE) Tryzok ?_
        (iterate 7 refine rq rfl rfl rfl rfl rfl ?_)
        refine rg_fcall rfl rfl rfl rfl rfl rfl good57 (c57h x (chg4 s (bfR x.db s id) a v) hx.db hck hx.dn hx.nw) (⟨CoHC.refl _, ⟨CoH.refl _, CoH.refl _, CoH.refl _, co_nil, co_nil, CoH.refl _, CoH.refl _, CoH.refl _, CoH.refl _, CoH.refl _, CoH.refl _, trivial⟩, trivial⟩) ⟨⟨_, rfl, CoO.refl _⟩, ⟨_, rfl, CoO.refl _⟩, ⟨_, rfl, CoO.refl _⟩, ⟨_, rfl, CoO.refl _⟩, trivial⟩ rfl rfl ?_
        refine rq rfl rfl rfl rfl rfl ?_; refine rg_nil ?_; show HW _ _ _ _ _; refine hw_ret ?_; refine ⟨.inr rfl, ?_⟩
        have hsm : ¬ sameV (bfR x.db s id) a v = true := by simp_all [sameV, Val.eq_iff] <;> (intros; omega)
        rw [show cgE x s id a v = appErr x.db (chg4 s (bfR x.db s id) a v) by rw [cgE, if_neg (by simp [hb0]), if_neg hsm], show cgS x s id a v = pfS x (chg4 s (bfR x.db s id) a v) by rw [cgS, if_neg (by simp [hb0]), if_neg hsm]]
        exact ⟨_, _, rfl, (by (repeat' apply And.intro) <;> first | trivial | exact Nat.le_of_ble_eq_true rfl), CoR.refl _, ⟨⟨_, rfl, CoO.refl _⟩, ⟨_, rfl, CoO.refl _⟩, ⟨_, rfl, CoO.refl _⟩, ⟨_, rfl, CoO.refl _⟩, trivial⟩⟩
    · skip
      have h1 := r1
      have h1 := of_decide_eq_false h1
      try simp only [Int.toNat_natCast] at h1
      (iterate 6 refine rk rfl rfl rfl (gft r1) ?_); refine rq rfl rfl rfl rfl rfl ?_ (hp := r1); refine rq rfl rfl rfl rfl rfl ?_; (iterate 2 refine rk rfl rfl rfl rfl ?_); (iterate 2 refine rq rfl rfl rfl rfl rfl ?_)
      (iterate 8 refine rk rfl rfl rfl rfl ?_); refine rq rfl rfl rfl rfl rfl ?_; refine rg_nil ?_; refine ⟨by kernel_rfl, ?_⟩; show HW _ _ _ _ _; refine hw_cond _ rfl (fun e => by cases e) (fun _ => ?_); refine hw_skip ?_
      show HW _ _ _ _ _; refine hw_seq ?_; refine hw_region (E := TryzE) Tryzok ?_; (iterate 7 refine rq rfl rfl rfl rfl rfl ?_)
      refine rg_fcall rfl rfl rfl rfl rfl rfl good57 (c57h x (chg4 s (bfR x.db s id) a v) hx.db hck hx.dn hx.nw) (⟨CoHC.refl _, ⟨CoH.refl _, CoH.refl _, CoH.refl _, co_nil, co_nil, CoH.refl _, CoH.refl _, CoH.refl _, CoH.refl _, CoH.refl _, CoH.refl _, trivial⟩, trivial⟩) ⟨⟨_, rfl, CoO.refl _⟩, ⟨_, rfl, CoO.refl _⟩, ⟨_, rfl, CoO.refl _⟩, ⟨_, rfl, CoO.refl _⟩, trivial⟩ rfl rfl ?_
      refine rq rfl rfl rfl rfl rfl ?_; refine rg_nil ?_; show HW _ _ _ _ _; refine hw_ret ?_; refine ⟨.inr rfl, ?_⟩
      have hsm : ¬ sameV (bfR x.db s id) a v = true := by simp_all [sameV, Val.eq_iff] <;> (intros; omega)
      rw [show cgE x s id a v = appErr x.db (chg4 s (bfR x.db s id) a v) by rw [cgE, if_neg (by simp [hb0]), if_neg hsm], show cgS x s id a v = pfS x (chg4 s (bfR x.db s id) a v) by rw [cgS, if_neg (by simp [hb0]), if_neg hsm]]
      exact ⟨_, _, rfl, (by (repeat' apply And.intro) <;> first | trivial | exact Nat.le_of_ble_eq_true rfl), CoR.refl _, ⟨⟨_, rfl, CoO.refl _⟩, ⟨_, rfl, CoO.refl _⟩, ⟨_, rfl, CoO.refl _⟩, ⟨_, rfl, CoO.refl _⟩, trivial⟩⟩
end Go.Hx
end
section
namespace Go.Hx
open Go.Proofs
set_option maxRecDepth 100000
theorem lf_app_l {α : Type} [Inhabited α] {c : α → Nat → PV} {l l' : List α} {i j : Nat} (h : i < l.length) : lf c (l ++ l') i j = lf c l i j := by
  simp only [lf, List.getD, List.getElem?_append_left h]
theorem lf_app_r {α : Type} [Inhabited α] {c : α → Nat → PV} {l l' : List α} {k j : Nat} : lf c (l ++ l') (l.length + k) j = lf c l' k j := by
  simp only [lf, List.getD]
  rw [List.getElem?_append_right (by omega), Nat.add_sub_cancel_left]
theorem good23 : goodFn Tryz.prog 23 := ⟨Tryz.f23, Tryz.func23, by kernel_rfl, by kernel_rfl⟩
theorem c23h (x : Str) (hf : x.done.flatten.length ≤ 68719476736) (hok : ∀ i k, i < x.done.length → k < (x.done.getD i default).length → ((x.done.getD i default).getD k default).ok) : HFun Tryz.prog 23 [.one (.ptr 1000 0)] x.objs (.v (.one (.ref 911 x.done.flatten.length))) (x.objs ++ [(911, .arr true 11 49 x.done.flatten.length (lf Chg.c x.done.flatten))]) [1000] := by
  refine hfun_of (nt := 38) Tryzok Tryz.func23 rfl rfl (Nat.le_of_ble_eq_true rfl) rfl ?_; refine hw_seq ?_; refine hw_region (E := TryzE) Tryzok ?_; refine rq rfl rfl rfl rfl rfl ?_; refine rg_nil ?_; show HW _ _ _ _ _
  refine hw_seq ?_; refine hw_region (E := TryzE) Tryzok ?_; refine rq rfl rfl rfl rfl rfl ?_; refine rg_nil ?_; show HW _ _ _ _ _; (iterate 2 refine hw_seq ?_); refine hw_ba 901 rfl (fun hn => ?_)
  refine hw_region (E := TryzE) Tryzok ?_; (iterate 6 refine rq rfl rfl rfl rfl rfl ?_); refine rg_nil ?_; show HW _ _ _ _ _; refine hw_block ?_
  refine hw_adopt 3 911 true 11 49 (lf Chg.c []) (by decide) rfl (CoP.sl rfl (.inr rfl) (fun h => h) (fun i j hi _ => absurd hi (Nat.not_lt_zero i))) (.inr rfl) rfl ?_
  refine hw_loopK (ι := Nat) ⟨[(11, some _), (12, some _)], [(1000, some _), (901, some _), (902, some _), (903, some _)]⟩ ⟨⟨⟨_, rfl, CoR.refl _⟩, ⟨_, rfl, CoR.refl _⟩, trivial⟩, ⟨⟨_, rfl, CoO.refl _⟩, ⟨_, rfl, CoO.refl _⟩, ⟨_, rfl, CoO.refl _⟩, ⟨_, rfl, CoO.refl _⟩, trivial⟩⟩ (fun i => ⟨[(3, some (.v (.one (.ref 911 (x.done.take i).flatten.length)))), (13, some (vI i))], [(911, some (.arr true 11 49 (x.done.take i).flatten.length (lf Chg.c (x.done.take i).flatten)))]⟩) (fun i => i ≤ x.done.length) (fun i => x.done.length - i) (0) (Nat.zero_le _) ⟨⟨⟨_, rfl, (by first | exact CoR.refl _ | exact coi (by omega) | exact cob (by simp_all))⟩, ⟨_, rfl, (by first | exact CoR.refl _ | exact coi (by omega) | exact cob (by simp_all))⟩, trivial⟩, ⟨⟨_, rfl, CoO.refl _⟩, trivial⟩⟩ ?_
  rintro i hi
  refine hw_seq ?_; refine hw_region (E := TryzE) Tryzok ?_; refine rq rfl rfl rfl rfl rfl ?_; refine rg_nil ?_; show HW _ _ _ _ _; refine hw_seq ?_; refine hw_cond _ rfl (fun r0 => ?_) (fun r0 => ?_)
  · skip
    have h0 := r0
    have h0 := of_decide_eq_true h0
    try simp only [Int.toNat_natCast] at h0
    have hfl := flat_take_le x.done i (by omega)
    have hts : (x.done.take (i + 1)).flatten.length = (x.done.take i).flatten.length + (x.done.getD i default).length := by rw [tsf _ _ (by omega), List.length_append]
    refine hw_skip ?_; show HW _ _ _ _ _; refine hw_seq ?_; refine hw_block ?_; refine hw_seq ?_; refine hw_region (E := TryzE) Tryzok ?_; (iterate 3 refine rq rfl rfl rfl rfl rfl ?_); refine rg_nil ?_; show HW _ _ _ _ _
    refine hw_seq ?_; refine hw_region (E := TryzE) Tryzok ?_; (iterate 3 refine rq rfl rfl rfl rfl rfl ?_); refine rg_nil ?_; show HW _ _ _ _ _; refine hw_block ?_
    refine hw_loopK (ι := Nat) ⟨[(11, some _), (12, some _), (13, some _), (17, some _), (18, some _)], [(1000, some _), (901, some _), (902, some _), (903, some _)]⟩ ⟨⟨⟨_, rfl, CoR.refl _⟩, ⟨_, rfl, CoR.refl _⟩, ⟨_, rfl, CoR.refl _⟩, ⟨_, rfl, CoR.refl _⟩, ⟨_, rfl, CoR.refl _⟩, trivial⟩, ⟨⟨_, rfl, CoO.refl _⟩, ⟨_, rfl, CoO.refl _⟩, ⟨_, rfl, CoO.refl _⟩, ⟨_, rfl, CoO.refl _⟩, trivial⟩⟩ (fun k => ⟨[(3, some (.v (.one (.ref 911 ((x.done.take i).flatten.length + k))))), (19, some (vI k))], [(911, some (.arr true 11 49 ((x.done.take i).flatten.length + k) (lf Chg.c ((x.done.take i).flatten ++ (x.done.getD i default)))))]⟩) (fun k => k ≤ (x.done.getD i default).length) (fun k => (x.done.getD i default).length - k) (0) (Nat.zero_le _) ⟨⟨⟨_, rfl, (by first | exact CoR.refl _ | exact coi (by omega) | exact cob (by simp_all))⟩, ⟨_, rfl, (by first | exact CoR.refl _ | exact coi (by omega) | exact cob (by simp_all))⟩, trivial⟩, ⟨⟨_, rfl, ⟨fun h => h, rfl, rfl, rfl, fun a j ha hj => CoP.of_eq (lf_app_l ha).symm⟩⟩, trivial⟩⟩ ?_
    rintro k hk
    refine hw_seq ?_; refine hw_region (E := TryzE) Tryzok ?_; refine rq rfl rfl rfl rfl rfl ?_; refine rg_nil ?_; show HW _ _ _ _ _; refine hw_seq ?_; refine hw_cond _ rfl (fun r1 => ?_) (fun r1 => ?_)
    · skip
      have h1 := r1
      have h1 := of_decide_eq_true h1
      try simp only [Int.toNat_natCast] at h1
      refine hw_skip ?_; show HW _ _ _ _ _; refine hw_seq ?_; refine hw_block ?_; refine hw_seq ?_; refine hw_region (E := TryzE) Tryzok ?_; (iterate 2 refine rq rfl rfl rfl rfl rfl ?_); refine rm 0 rfl rfl rfl rfl rfl rfl ?_
      refine rs rfl rfl rfl rfl rfl ?_; refine rg_nil ?_; show HW _ _ _ _ _; refine hw_seq ?_; refine hw_draw (E := TryzE) Tryzok Tryzmixed [0, 1, 2, 3, 4, 5, 6, 7, 8, 9] ?_; (iterate 2 refine rq rfl rfl rfl rfl rfl ?_)
      refine rc rfl rfl rfl rfl rfl rfl good51 (c51 _ (hok i k (by omega) (by omega)).1) (CoL.refl _) rfl rfl ?_; (iterate 2 refine rq rfl rfl rfl rfl rfl ?_)
      refine rc rfl rfl rfl rfl rfl rfl good52 (c52 _ (hok i k (by omega) (by omega)).2.1.1) (CoL.refl _) rfl rfl ?_; refine rq rfl rfl rfl rfl rfl ?_; refine rs rfl rfl rfl rfl rfl ?_; refine rq rfl rfl rfl rfl rfl ?_
      refine rs rfl rfl rfl rfl rfl ?_; refine rg_nil ?_; refine ⟨by kernel_rfl, ?_⟩; show HW _ _ _ _ _; refine hw_region (E := TryzE) Tryzok ?_; (iterate 2 refine rq rfl rfl rfl rfl rfl ?_); refine rm 1 rfl rfl rfl rfl rfl rfl ?_
      refine ra 2 true rfl rfl rfl rfl rfl rfl ?_; refine rq rfl rfl rfl rfl rfl ?_; refine rg_nil ?_; show HW _ _ _ _ _; refine hw_region (E := TryzE) Tryzok ?_; (iterate 2 refine rq rfl rfl rfl rfl rfl ?_); refine rg_nil ?_
      refine ⟨k + 1, ?_, ?_, ?_⟩
      · show k + 1 ≤ _
        omega
      · first | omega | (dsimp only; omega)
      · exact ⟨⟨⟨_, rfl, (by first | exact CoR.refl _ | exact coi (by omega) | exact cob (by simp_all))⟩, ⟨_, rfl, (by first | exact CoR.refl _ | exact coi (by omega) | exact cob (by simp_all))⟩, ⟨_, rfl, CoR.refl _⟩, ⟨_, rfl, CoR.refl _⟩, ⟨_, rfl, CoR.refl _⟩, ⟨_, rfl, CoR.refl _⟩, ⟨_, rfl, CoR.refl _⟩, trivial⟩, ⟨⟨_, rfl, (co_push (fun h => h) (fun j hj => by rw [lf_app_r]; revert j; exact lt11 (CoP.refl _) (CoP.refl _) (CoP.refl _) (CoP.refl _) (CoP.refl _) (CoP.refl _) (CoP.refl _) (CoP.refl _) (CoP.refl _) (CoP.refl _) (CoP.refl _)))⟩, ⟨_, rfl, CoO.refl _⟩, ⟨_, rfl, CoO.refl _⟩, ⟨_, rfl, CoO.refl _⟩, ⟨_, rfl, CoO.refl _⟩, trivial⟩⟩
    · skip
      have h1 := r1
      have h1 := of_decide_eq_false h1
      try simp only [Int.toNat_natCast] at h1
      obtain rfl : k = (x.done.getD i default).length := by omega
      refine hw_exit ?_; show HW _ _ _ _ _; refine hw_region (E := TryzE) Tryzok ?_; (iterate 2 refine rq rfl rfl rfl rfl rfl ?_); refine rg_nil ?_; refine ⟨i + 1, ?_, ?_, ?_⟩
      · show i + 1 ≤ _
        omega
      · first | omega | (dsimp only; omega)
      · exact ⟨⟨⟨_, rfl, (CoR.of_eq (by rw [hts]))⟩, ⟨_, rfl, (by first | exact CoR.refl _ | exact coi (by omega) | exact cob (by simp_all))⟩, ⟨_, rfl, CoR.refl _⟩, ⟨_, rfl, CoR.refl _⟩, trivial⟩, ⟨⟨_, rfl, (by rw [tsf _ _ (by omega)]; exact ⟨fun h => h, rfl, rfl, by simp, fun a j ha hj => CoP.refl _⟩)⟩, ⟨_, rfl, CoO.refl _⟩, ⟨_, rfl, CoO.refl _⟩, ⟨_, rfl, CoO.refl _⟩, ⟨_, rfl, CoO.refl _⟩, trivial⟩⟩
  · skip
    have h0 := r0
    have h0 := of_decide_eq_false h0
    try simp only [Int.toNat_natCast] at h0
    obtain rfl : i = x.done.length := by omega
    refine hw_exit ?_; show HW _ _ _ _ _; refine hw_seq ?_; refine hw_region (E := TryzE) Tryzok ?_; (iterate 2 refine rq rfl rfl rfl rfl rfl ?_); refine rg_nil ?_; show HW _ _ _ _ _; refine hw_ret ?_; refine ⟨.inr rfl, ?_⟩
    exact ⟨_, _, rfl, (by (repeat' apply And.intro) <;> first | trivial | exact Nat.le_of_ble_eq_true rfl), CoR.of_eq (by rw [List.take_length]; rfl), ⟨⟨_, rfl, CoO.refl _⟩, ⟨_, rfl, CoO.refl _⟩, ⟨_, rfl, CoO.refl _⟩, ⟨_, rfl, CoO.refl _⟩, ⟨_, rfl, CoO.of_eq (by rw [List.take_length])⟩, trivial⟩⟩
end Go.Hx
end
section
namespace Go.Hx
open Go.Proofs
set_option maxRecDepth 100000
theorem good80 : goodFn Tryz.prog 80 := ⟨Tryz.f80, Tryz.func80, by kernel_rfl, by kernel_rfl⟩
theorem c80 (c : Chg) (hr : c.row.vals.length ≤ 68719476736) (h4 : c.kind = 4 → 0 ≤ c.attr ∧ c.attr < c.row.vals.length) : HPure Tryz.prog 80 [c.pc] (prOf [(invC c).pc]) := by
  refine hpure_of (nt := 36) Tryzok Tryz.func80 rfl rfl (Nat.le_of_ble_eq_true rfl) ?_; refine hw_seq ?_; refine hw_region (E := TryzE) Tryzok ?_; refine rm 0 rfl rfl rfl rfl rfl rfl ?_; refine rm 1 rfl rfl rfl rfl rfl rfl ?_
  refine rg_nil ?_; show HW _ _ _ _ _; (iterate 2 refine hw_seq ?_); refine hw_region (E := TryzE) Tryzok ?_; (iterate 2 refine rq rfl rfl rfl rfl rfl ?_); refine rg_nil ?_; show HW _ _ _ _ _; refine hw_block ?_; refine hw_seq ?_
  refine hw_region (E := TryzE) Tryzok ?_; (iterate 2 refine rq rfl rfl rfl rfl rfl ?_); refine rg_nil ?_; show HW _ _ _ _ _; refine hw_cond _ rfl (fun r0 => ?_) (fun r0 => ?_)
  · skip
    have h0 := r0
    have h0 := of_decide_eq_true h0
    try simp only [Int.toNat_natCast] at h0
    refine hw_region (E := TryzE) Tryzok ?_; refine rq rfl rfl rfl rfl rfl ?_; refine rs rfl rfl rfl rfl rfl ?_; refine rg_nil ?_; show HW _ _ _ _ _; refine hw_seq ?_; refine hw_region (E := TryzE) Tryzok ?_
    refine rq rfl rfl rfl rfl rfl ?_; refine rs rfl rfl rfl rfl rfl ?_; refine rg_nil ?_; show HW _ _ _ _ _; refine hw_ret ?_; refine ⟨.inr rfl, ?_⟩
    first | rw [inv2 (by assumption)] | rw [inv3 (by assumption)] | rw [inv4 (by assumption)] | rw [inv0 (by assumption) (by assumption) (by assumption)]
    exact ⟨_, _, _, _, rfl, (by (repeat' apply And.intro) <;> first | trivial | exact Nat.le_of_ble_eq_true rfl | rfl), rfl, (by (repeat' apply And.intro) <;> first | trivial | exact Nat.le_of_ble_eq_true rfl | rfl), (by first | exact CoL.refl _ | exact ⟨CoC.agg ⟨CoP.refl _, CoP.refl _, CoP.refl _, CoP.refl _, CoP.refl _, CoP.refl _, set_coV (by omega), CoP.refl _, CoP.refl _, CoP.refl _, CoP.refl _, trivial⟩, trivial⟩)⟩
  · skip
    have h0 := r0
    have h0 := of_decide_eq_false h0
    try simp only [Int.toNat_natCast] at h0
    refine hw_seq ?_; refine hw_region (E := TryzE) Tryzok ?_; (iterate 2 refine rq rfl rfl rfl rfl rfl ?_); refine rg_nil ?_; show HW _ _ _ _ _; refine hw_cond _ rfl (fun r1 => ?_) (fun r1 => ?_)
    · skip
      have h1 := r1
      have h1 := of_decide_eq_true h1
      try simp only [Int.toNat_natCast] at h1
      refine hw_region (E := TryzE) Tryzok ?_; refine rq rfl rfl rfl rfl rfl ?_; refine rs rfl rfl rfl rfl rfl ?_; refine rg_nil ?_; show HW _ _ _ _ _; refine hw_seq ?_; refine hw_region (E := TryzE) Tryzok ?_
      refine rq rfl rfl rfl rfl rfl ?_; refine rs rfl rfl rfl rfl rfl ?_; refine rg_nil ?_; show HW _ _ _ _ _; refine hw_ret ?_; refine ⟨.inr rfl, ?_⟩
      first | rw [inv2 (by assumption)] | rw [inv3 (by assumption)] | rw [inv4 (by assumption)] | rw [inv0 (by assumption) (by assumption) (by assumption)]
      exact ⟨_, _, _, _, rfl, (by (repeat' apply And.intro) <;> first | trivial | exact Nat.le_of_ble_eq_true rfl | rfl), rfl, (by (repeat' apply And.intro) <;> first | trivial | exact Nat.le_of_ble_eq_true rfl | rfl), (by first | exact CoL.refl _ | exact ⟨CoC.agg ⟨CoP.refl _, CoP.refl _, CoP.refl _, CoP.refl _, CoP.refl _, CoP.refl _, set_coV (by omega), CoP.refl _, CoP.refl _, CoP.refl _, CoP.refl _, trivial⟩, trivial⟩)⟩
    · skip
      have h1 := r1
      have h1 := of_decide_eq_false h1
      try simp only [Int.toNat_natCast] at h1
      refine hw_seq ?_; refine hw_region (E := TryzE) Tryzok ?_; (iterate 2 refine rq rfl rfl rfl rfl rfl ?_); refine rg_nil ?_; show HW _ _ _ _ _; refine hw_cond _ rfl (fun r2 => ?_) (fun r2 => ?_)
      · skip
        have h2 := r2
        have h2 := of_decide_eq_true h2
        try simp only [Int.toNat_natCast] at h2
        have hk4 := h4 (by assumption)
        refine hw_seq ?_; refine hw_region (E := TryzE) Tryzok ?_; (iterate 7 refine rq rfl rfl rfl rfl rfl ?_); refine rm 2 rfl rfl rfl rfl rfl rfl ?_; refine rs rfl rfl rfl rfl rfl ?_; refine rg_nil ?_; show HW _ _ _ _ _
        refine hw_seq ?_; refine hw_region (E := TryzE) Tryzok ?_; (iterate 2 refine rq rfl rfl rfl rfl rfl ?_); refine rg_fcall rfl rfl rfl rfl rfl rfl good52 (c52h c.row hr) (CoHCL.refl _) trivial rfl rfl ?_
        refine rq rfl rfl rfl rfl rfl ?_; refine rs rfl rfl rfl rfl rfl ?_; refine rg_nil ?_; show HW _ _ _ _ _; refine hw_draw (E := TryzE) Tryzok Tryzmixed [0, 1, 2, 3, 4, 5, 6, 7, 8, 9, 10, 11] ?_
        (iterate 9 refine rq rfl rfl rfl rfl rfl ?_); refine rs rfl rfl rfl rfl rfl ?_; refine rq rfl rfl rfl rfl rfl ?_; refine rs rfl rfl rfl rfl rfl ?_; refine rg_nil ?_; refine ⟨by kernel_rfl, ?_⟩; show HW _ _ _ _ _
        refine hw_seq ?_; refine hw_region (E := TryzE) Tryzok ?_; refine rq rfl rfl rfl rfl rfl ?_; refine rs rfl rfl rfl rfl rfl ?_; refine rg_nil ?_; show HW _ _ _ _ _; refine hw_ret ?_; refine ⟨.inr rfl, ?_⟩
        first | rw [inv2 (by assumption)] | rw [inv3 (by assumption)] | rw [inv4 (by assumption)] | rw [inv0 (by assumption) (by assumption) (by assumption)]
        exact ⟨_, _, _, _, rfl, (by (repeat' apply And.intro) <;> first | trivial | exact Nat.le_of_ble_eq_true rfl | rfl), rfl, (by (repeat' apply And.intro) <;> first | trivial | exact Nat.le_of_ble_eq_true rfl | rfl), (by first | exact CoL.refl _ | exact ⟨CoC.agg ⟨CoP.refl _, CoP.refl _, CoP.refl _, CoP.refl _, CoP.refl _, CoP.refl _, set_coV (by omega), CoP.refl _, CoP.refl _, CoP.refl _, CoP.refl _, trivial⟩, trivial⟩)⟩
      · skip
        have h2 := r2
        have h2 := of_decide_eq_false h2
        try simp only [Int.toNat_natCast] at h2
        refine hw_skip ?_; show HW _ _ _ _ _; refine hw_seq ?_; refine hw_region (E := TryzE) Tryzok ?_; refine rq rfl rfl rfl rfl rfl ?_; refine rs rfl rfl rfl rfl rfl ?_; refine rg_nil ?_; show HW _ _ _ _ _; refine hw_ret ?_
        refine ⟨.inr rfl, ?_⟩
        first | rw [inv2 (by assumption)] | rw [inv3 (by assumption)] | rw [inv4 (by assumption)] | rw [inv0 (by assumption) (by assumption) (by assumption)]
        exact ⟨_, _, _, _, rfl, (by (repeat' apply And.intro) <;> first | trivial | exact Nat.le_of_ble_eq_true rfl | rfl), rfl, (by (repeat' apply And.intro) <;> first | trivial | exact Nat.le_of_ble_eq_true rfl | rfl), (by first | exact CoL.refl _ | exact ⟨CoC.agg ⟨CoP.refl _, CoP.refl _, CoP.refl _, CoP.refl _, CoP.refl _, CoP.refl _, set_coV (by omega), CoP.refl _, CoP.refl _, CoP.refl _, CoP.refl _, trivial⟩, trivial⟩)⟩
end Go.Hx
end
section
namespace Go.Hx
open Go.Proofs
set_option maxRecDepth 100000
theorem good17 : goodFn Tryz.prog 17 := ⟨Tryz.f17, Tryz.func17, by kernel_rfl, by kernel_rfl⟩
theorem c17h  : HFun Tryz.prog 17 [] [] (.v (.one (.ptr 900 0))) [(900, .box [.p (tbls []), .ref 901 0, .ref 902 0, .p (.raw (.bool false)), .ref 903 0]), (901, .arr false 1 23 0 (lf txC [])), (902, .arr false 1 23 0 (lf txC [])), (903, .arr false 11 49 0 (lf Chg.c []))] [] := by
  refine hfun_of (nt := 3) Tryzok Tryz.func17 rfl rfl (Nat.le_of_ble_eq_true rfl) rfl ?_; refine hw_fin ?_; refine hw_seq ?_; refine hw_region (E := TryzE) Tryzok ?_; refine rq rfl rfl rfl rfl rfl ?_; refine rg_nil ?_
  show HW _ _ _ _ _; refine hw_seq ?_; refine hw_region (E := TryzE) Tryzok ?_; refine rq rfl rfl rfl rfl rfl ?_; refine rm 900 rfl rfl rfl rfl rfl rfl ?_; refine rq rfl rfl rfl rfl rfl ?_; refine rg_nil ?_; show HW _ _ _ _ _
  refine hw_ret ?_
  show HE _ _ _
  refine he_adopt_cell 900 1 901 false 1 23 (lf txC []) (by decide) rfl rfl (CoP.sl rfl (.inr rfl) (fun h => h) (fun i j hi _ => absurd hi (Nat.not_lt_zero i))) (.inl rfl) rfl rfl ?_
  refine he_adopt_cell 900 2 902 false 1 23 (lf txC []) (by decide) rfl rfl (CoP.sl rfl (.inr rfl) (fun h => h) (fun i j hi _ => absurd hi (Nat.not_lt_zero i))) (.inl rfl) rfl rfl ?_
  refine he_adopt_cell 900 4 903 false 11 49 (lf Chg.c []) (by decide) rfl rfl (CoP.sl rfl (.inr rfl) (fun h => h) (fun i j hi _ => absurd hi (Nat.not_lt_zero i))) (.inl rfl) rfl rfl ?_; refine he_done ?_; refine ⟨.inr rfl, ?_⟩
  exact ⟨_, _, rfl, (by (repeat' apply And.intro) <;> first | trivial | exact Nat.le_of_ble_eq_true rfl), CoR.refl _, ⟨⟨_, rfl, ⟨co_nil, CoH.refl _, CoH.refl _, CoH.refl _, CoH.refl _, trivial⟩⟩, ⟨_, rfl, CoO.refl _⟩, ⟨_, rfl, CoO.refl _⟩, ⟨_, rfl, CoO.refl _⟩, trivial⟩⟩
end Go.Hx
end
section
namespace Go.Hx
open Go.Proofs
set_option maxRecDepth 100000
theorem good19 : goodFn Tryz.prog 19 := ⟨Tryz.f19, Tryz.func19, by kernel_rfl, by kernel_rfl⟩
theorem c19h (x : Str) (s : Stt) (hx : SOk x) (hf : x.done.flatten.length ≤ 68719476736) (hok : ∀ i k, i < x.done.length → k < (x.done.getD i default).length → ((x.done.getD i default).getD k default).ok) (hs : StOk s) (ha : chgsOk x.done.flatten) (hb : chgsOk s.done.flatten) : HFun Tryz.prog 19 [.one (.ptr 1000 0), s.pc.toH] x.objs (.v (.one (.p (.raw (.bool (decide (x.db = dbOf s) && decide (x.done.flatten = s.done.flatten))))))) x.objs [1000] := by
  refine hfun_of (nt := 17) Tryzok Tryz.func19 rfl rfl (Nat.le_of_ble_eq_true rfl) rfl ?_
  have hV := hs.V
  refine hw_seq ?_; refine hw_region (E := TryzE) Tryzok ?_; refine rm 0 rfl rfl rfl rfl rfl rfl ?_; refine rq rfl rfl rfl rfl rfl ?_; refine rg_nil ?_; show HW _ _ _ _ _; refine hw_seq ?_
  refine hw_draw (E := TryzE) Tryzok Tryzmixed [0, 1, 2, 3, 4, 5, 6, 7, 8, 9, 10, 11, 12] ?_; refine rq rfl rfl rfl rfl rfl ?_
  refine rg_fcall rfl rfl rfl rfl rfl rfl good22 (c22h x hx.db) (CoHCL.refl _) ⟨⟨_, rfl, CoO.refl _⟩, ⟨_, rfl, CoO.refl _⟩, ⟨_, rfl, CoO.refl _⟩, ⟨_, rfl, CoO.refl _⟩, trivial⟩ rfl rfl ?_; refine rq rfl rfl rfl rfl rfl ?_
  refine rc rfl rfl rfl rfl rfl rfl good50 (c50 s hs.ld hs.ln hs.ok) (CoL.refl _) rfl rfl ?_; refine rc rfl rfl rfl rfl rfl rfl good16 (c16 _ _ hx.db.ok hV.ok) (CoL.refl _) rfl rfl ?_; refine rq rfl rfl rfl rfl rfl ?_
  refine rsplit rfl rfl (fun r0 => ?_) (fun r0 => ?_)
  · skip
    have h0 := r0
    refine rq rfl rfl rfl rfl (gtt r0) ?_
    refine rg_fcall rfl rfl rfl rfl rfl rfl good23 (c23h x hf hok) (CoHCL.refl _) ⟨⟨_, rfl, CoO.refl _⟩, ⟨_, rfl, CoO.refl _⟩, ⟨_, rfl, CoO.refl _⟩, ⟨_, rfl, CoO.refl _⟩, trivial⟩ rfl (gtt r0) ?_
    refine rq rfl rfl rfl rfl (gtt r0) ?_; refine rg_fcall rfl rfl rfl rfl rfl rfl good12 ((c12h s hs.ld).swap 9 100) (CoHCL.refl _) trivial rfl (gtt r0) ?_
    refine rc rfl rfl rfl rfl rfl rfl good26 (c26 x.done.flatten s.done.flatten ha hb) (CoL.refl _) rfl (gtt r0) ?_; (iterate 2 refine rq rfl rfl rfl rfl rfl ?_); refine rg_nil ?_; refine ⟨by kernel_rfl, ?_⟩; show HW _ _ _ _ _
    refine hw_ret ?_; refine ⟨.inr rfl, ?_⟩
    exact ⟨_, _, rfl, (by (repeat' apply And.intro) <;> first | trivial | exact Nat.le_of_ble_eq_true rfl), (CoR.of_eq (by first | (have h : decide (x.db = dbOf s) = false := (by assumption); rw [h]; rfl) | (have h : decide (x.db = dbOf s) = true := (by assumption); rw [h]; rfl))), ⟨⟨_, rfl, CoO.refl _⟩, ⟨_, rfl, CoO.refl _⟩, ⟨_, rfl, CoO.refl _⟩, ⟨_, rfl, CoO.refl _⟩, trivial⟩⟩
  · skip
    have h0 := r0
    (iterate 5 refine rk rfl rfl rfl (gft r0) ?_); refine rq rfl rfl rfl rfl rfl ?_ (hp := r0); refine rq rfl rfl rfl rfl rfl ?_; refine rg_nil ?_; refine ⟨by kernel_rfl, ?_⟩; show HW _ _ _ _ _; refine hw_ret ?_
    refine ⟨.inr rfl, ?_⟩
    exact ⟨_, _, rfl, (by (repeat' apply And.intro) <;> first | trivial | exact Nat.le_of_ble_eq_true rfl), (CoR.of_eq (by first | (have h : decide (x.db = dbOf s) = false := (by assumption); rw [h]; rfl) | (have h : decide (x.db = dbOf s) = true := (by assumption); rw [h]; rfl))), ⟨⟨_, rfl, CoO.refl _⟩, ⟨_, rfl, CoO.refl _⟩, ⟨_, rfl, CoO.refl _⟩, ⟨_, rfl, CoO.refl _⟩, trivial⟩⟩
end Go.Hx
end
section
namespace Go.Hx
open Go.Proofs
set_option maxRecDepth 100000
abbrev op5 : Opn := ⟨5, 0, default, 0, [], 0, 0⟩
def clX (x : Str) (b : Bool) : Str := if b = true then cmS (enS x) (enL x) else x
def clR (s : Stt) : Stt := if s.opn = true then doS s op5 else s
end Go.Hx
end
section
namespace Go.Hx
def redoD (d : DB) : List Chg → DB
  | [] => d
  | c :: l => redoD (appD d c) l
theorem redo_step {d : DB} {l : List Chg} {i : Nat} (h : i < l.length) : redoD d (l.drop i) = redoD (appD d (l.getD i default)) (l.drop (i + 1)) := by
  rw [List.drop_eq_getElem_cons h, getD_lt _ _ h]
  rfl
def rdE (x : Str) : Int := if x.opn = true ∨ x.undone.length = 0 then 16 else 0
def rdS (x : Str) : Str := if x.opn = true ∨ x.undone.length = 0 then x else
  { x with db := redoD x.db (x.undone.getD ((x.undone.length : Int) - 1).toNat default), done := x.done ++ [x.undone.getD ((x.undone.length : Int) - 1).toNat default], undone := x.undone.take (x.undone.length - 1) }
theorem lf_take {l : List (List Chg)} {k i j : Nat} (h : i < k) : lf txC l i j = lf txC (l.take k) i j := by
  simp only [lf, List.getD, List.getElem?_take, h, if_true]
end Go.Hx
end
section
namespace Go.Hx
open Go.Proofs
set_option maxRecDepth 100000
theorem good25 : goodFn Tryz.prog 25 := ⟨Tryz.f25, Tryz.func25, by kernel_rfl, by kernel_rfl⟩
theorem c25h (x : Str) (hd : dbV x.db) (hd1 : x.done.length ≤ 68719476736) (hu : x.undone.length ≤ 68719476736) (hok : chgsOk (x.undone.getD ((x.undone.length : Int) - 1).toNat default)) : HFun Tryz.prog 25 [.one (.ptr 1000 0)] x.objs (.v (.one (.p (.raw (.int .i64 (rdE x)))))) (rdS x).objs [1000] := by
  refine hfun_of (nt := 69) Tryzok Tryz.func25 rfl rfl (Nat.le_of_ble_eq_true rfl) rfl ?_; refine hw_fin ?_
  have hnu : x.undone.length ≤ 68719476736 := hu
  refine hw_seq ?_; refine hw_region (E := TryzE) Tryzok ?_; refine rq rfl rfl rfl rfl rfl ?_; refine rg_nil ?_; show HW _ _ _ _ _; refine hw_seq ?_; refine hw_region (E := TryzE) Tryzok ?_
  (iterate 6 refine rq rfl rfl rfl rfl rfl ?_); refine rg_nil ?_; show HW _ _ _ _ _; (iterate 2 refine hw_seq ?_); refine hw_region (E := TryzE) Tryzok ?_; (iterate 5 refine rq rfl rfl rfl rfl rfl ?_)
  refine rsplit rfl rfl (fun r0 => ?_) (fun r0 => ?_)
  · skip
    have h0 := r0
    (iterate 2 refine rk rfl rfl rfl (gtf r0) ?_); refine rq rfl rfl rfl rfl rfl ?_ (hp := r0); refine rg_nil ?_; show HW _ _ _ _ _; refine hw_cond _ rfl (fun _ => ?_) (fun e => by cases e); refine hw_seq ?_
    refine hw_region (E := TryzE) Tryzok ?_; refine rq rfl rfl rfl rfl rfl ?_; refine rg_nil ?_; show HW _ _ _ _ _; refine hw_ret ?_
    show HE _ _ _
    refine he_done ?_; refine ⟨.inr rfl, ?_⟩
    have hc : x.opn = true ∨ x.undone.length = 0 := by first | exact .inl (by assumption) | exact .inr (by omega)
    rw [show rdE x = 16 from if_pos hc, show rdS x = x from if_pos hc]
    exact ⟨_, _, rfl, (by (repeat' apply And.intro) <;> first | trivial | exact Nat.le_of_ble_eq_true rfl), CoR.refl _, ⟨⟨_, rfl, CoO.refl _⟩, ⟨_, rfl, CoO.refl _⟩, ⟨_, rfl, CoO.refl _⟩, ⟨_, rfl, CoO.refl _⟩, trivial⟩⟩
  · skip
    have h0 := r0
    (iterate 2 refine rq rfl rfl rfl rfl (gff r0) ?_); refine rq rfl rfl rfl rfl rfl ?_; refine rg_nil ?_; show HW _ _ _ _ _; refine hw_cond _ rfl (fun r1 => ?_) (fun r1 => ?_)
    · skip
      have h1 := r1
      have h1 := bif_f r0 h1
      have h1 := of_decide_eq_true h1
      try simp only [Int.toNat_natCast] at h1
      refine hw_seq ?_; refine hw_region (E := TryzE) Tryzok ?_; refine rq rfl rfl rfl rfl rfl ?_; refine rg_nil ?_; show HW _ _ _ _ _; refine hw_ret ?_
      show HE _ _ _
      refine he_done ?_; refine ⟨.inr rfl, ?_⟩
      have hc : x.opn = true ∨ x.undone.length = 0 := by first | exact .inl (by assumption) | exact .inr (by omega)
      rw [show rdE x = 16 from if_pos hc, show rdS x = x from if_pos hc]
      exact ⟨_, _, rfl, (by (repeat' apply And.intro) <;> first | trivial | exact Nat.le_of_ble_eq_true rfl), CoR.refl _, ⟨⟨_, rfl, CoO.refl _⟩, ⟨_, rfl, CoO.refl _⟩, ⟨_, rfl, CoO.refl _⟩, ⟨_, rfl, CoO.refl _⟩, trivial⟩⟩
    · skip
      have h1 := r1
      have h1 := bif_f r0 h1
      have h1 := of_decide_eq_false h1
      try simp only [Int.toNat_natCast] at h1
      refine hw_skip ?_; show HW _ _ _ _ _; refine hw_seq ?_; refine hw_region (E := TryzE) Tryzok ?_; (iterate 9 refine rq rfl rfl rfl rfl rfl ?_); refine rg_nil ?_; show HW _ _ _ _ _; (iterate 2 refine hw_seq ?_)
      refine hw_bt 4 rfl (fun (hn : (x.undone.getD ((x.undone.length : Int) - 1).toNat default).length ≤ 9223372036854775807) => ?_); refine hw_region (E := TryzE) Tryzok ?_; (iterate 3 refine rq rfl rfl rfl rfl rfl ?_)
      refine rg_nil ?_; show HW _ _ _ _ _; refine hw_block ?_
      refine hw_loopK (ι := (Nat × DB)) ⟨[(0, some _), (3, some _), (4, some _), (28, some _), (29, some _)], [(901, some _), (902, some _), (903, some _)]⟩ ⟨⟨⟨_, rfl, CoR.refl _⟩, ⟨_, rfl, CoR.refl _⟩, ⟨_, rfl, CoR.refl _⟩, ⟨_, rfl, CoR.refl _⟩, ⟨_, rfl, CoR.refl _⟩, trivial⟩, ⟨⟨_, rfl, CoO.refl _⟩, ⟨_, rfl, CoO.refl _⟩, ⟨_, rfl, CoO.refl _⟩, trivial⟩⟩ (fun q => ⟨[(30, some (vI q.1))], [(1000, some (.box [.p (tbls q.2), .ref 901 x.done.length, .ref 902 x.undone.length, .p (.raw (.bool x.opn)), .ref 903 x.now.length]))]⟩) (fun q => q.1 ≤ (x.undone.getD ((x.undone.length : Int) - 1).toNat default).length ∧ dbV q.2 ∧ redoD q.2 ((x.undone.getD ((x.undone.length : Int) - 1).toNat default).drop q.1) = redoD x.db (x.undone.getD ((x.undone.length : Int) - 1).toNat default)) (fun q => (x.undone.getD ((x.undone.length : Int) - 1).toNat default).length - q.1) ((0, x.db)) (⟨Nat.zero_le _, hd, rfl⟩) ⟨⟨⟨_, rfl, (by first | exact CoR.refl _ | exact coi (by omega) | exact cob (by simp_all))⟩, trivial⟩, ⟨⟨_, rfl, CoO.refl _⟩, trivial⟩⟩ ?_
      rintro ⟨i, d⟩ ⟨hi, hdd, hD⟩
      dsimp only at hi hD ⊢
      refine hw_seq ?_; refine hw_region (E := TryzE) Tryzok ?_; refine rq rfl rfl rfl rfl rfl ?_; refine rg_nil ?_; show HW _ _ _ _ _; refine hw_seq ?_; refine hw_cond _ rfl (fun r2 => ?_) (fun r2 => ?_)
      · skip
        have h2 := r2
        have h2 := of_decide_eq_true h2
        try simp only [Int.toNat_natCast] at h2
        refine hw_skip ?_; show HW _ _ _ _ _; refine hw_seq ?_; refine hw_block ?_; refine hw_seq ?_; refine hw_region (E := TryzE) Tryzok ?_; (iterate 2 refine rq rfl rfl rfl rfl rfl ?_); refine rm 0 rfl rfl rfl rfl rfl rfl ?_
        refine rs rfl rfl rfl rfl rfl ?_; refine rg_nil ?_; show HW _ _ _ _ _; refine hw_draw (E := TryzE) Tryzok Tryzmixed [0, 1, 2, 3, 4, 5, 6, 7, 8, 9, 10, 11, 12] ?_; (iterate 6 refine rq rfl rfl rfl rfl rfl ?_)
        refine rc rfl rfl rfl rfl rfl rfl good45 (c45 d ((x.undone.getD ((x.undone.length : Int) - 1).toNat default).getD i default) hdd (hok i (by omega))) (CoL.refl _) rfl rfl ?_; (iterate 5 refine rq rfl rfl rfl rfl rfl ?_)
        refine rs rfl rfl rfl rfl rfl ?_; refine rg_nil ?_; refine ⟨by kernel_rfl, ?_⟩; show HW _ _ _ _ _; refine hw_region (E := TryzE) Tryzok ?_; (iterate 2 refine rq rfl rfl rfl rfl rfl ?_); refine rg_nil ?_
        refine ⟨(i + 1, appD d ((x.undone.getD ((x.undone.length : Int) - 1).toNat default).getD i default)), ?_, ?_, ?_⟩
        · exact ⟨by dsimp only; omega, app_V hdd, (redo_step (by omega)).symm.trans hD⟩
        · first | omega | (dsimp only; omega)
        · exact ⟨⟨⟨_, rfl, (by first | exact CoR.refl _ | exact coi (by omega) | exact cob (by simp_all))⟩, ⟨_, rfl, CoR.refl _⟩, ⟨_, rfl, CoR.refl _⟩, ⟨_, rfl, CoR.refl _⟩, ⟨_, rfl, CoR.refl _⟩, ⟨_, rfl, CoR.refl _⟩, trivial⟩, ⟨⟨_, rfl, CoO.refl _⟩, ⟨_, rfl, CoO.refl _⟩, ⟨_, rfl, CoO.refl _⟩, ⟨_, rfl, CoO.refl _⟩, trivial⟩⟩
      · skip
        have h2 := r2
        have h2 := of_decide_eq_false h2
        try simp only [Int.toNat_natCast] at h2
        obtain rfl : i = (x.undone.getD ((x.undone.length : Int) - 1).toNat default).length := by omega
        rw [List.drop_length] at hD
        obtain rfl : d = redoD x.db (x.undone.getD ((x.undone.length : Int) - 1).toNat default) := hD
        refine hw_exit ?_; show HW _ _ _ _ _; refine hw_seq ?_; refine hw_freeze_cell 1000 2 rfl rfl rfl rfl rfl ?_
        refine hw_draw (E := TryzE) Tryzok Tryzmixed [0, 2, 3, 4, 5, 6, 7, 8, 9, 10, 11, 12, 13, 14, 15, 16, 17, 18, 19, 20, 1, 21, 22, 23] ?_; (iterate 15 refine rq rfl rfl rfl rfl rfl ?_); refine rm 1 rfl rfl rfl rfl rfl rfl ?_
        refine ra 2 true rfl rfl rfl rfl rfl rfl ?_; (iterate 2 refine rq rfl rfl rfl rfl rfl ?_); refine rs rfl rfl rfl rfl rfl ?_; (iterate 3 refine rq rfl rfl rfl rfl rfl ?_); refine rs rfl rfl rfl rfl rfl ?_; refine rg_nil ?_
        refine ⟨by kernel_rfl, ?_⟩; show HW _ _ _ _ _; refine hw_seq ?_; refine hw_region (E := TryzE) Tryzok ?_; refine rq rfl rfl rfl rfl rfl ?_; refine rg_nil ?_; show HW _ _ _ _ _; refine hw_ret ?_
        show HE _ _ _
        refine he_sub ⟨[(2, some _)], [(1000, some _), (901, some _), (903, some _)]⟩ ⟨⟨⟨_, rfl, CoR.refl _⟩, trivial⟩, ⟨⟨_, rfl, CoO.refl _⟩, ⟨_, rfl, CoO.refl _⟩, ⟨_, rfl, CoO.refl _⟩, trivial⟩⟩ ?_
        refine he_adopt_cell 1000 2 902 false 1 23 (lf txC x.undone) (by decide) rfl rfl (CoP.refl _) (.inl rfl) rfl rfl ?_; refine he_done ?_; refine ⟨.inr rfl, ?_⟩
        have hc : ¬ (x.opn = true ∨ x.undone.length = 0) := by rintro (h | h) <;> first | (simp_all; done) | omega
        rw [show rdE x = 0 from if_neg hc, show rdS x = { x with db := redoD x.db (x.undone.getD ((x.undone.length : Int) - 1).toNat default), done := x.done ++ [(x.undone.getD ((x.undone.length : Int) - 1).toNat default)], undone := x.undone.take (x.undone.length - 1) } from if_neg hc]
        have hlen : ((x.undone.length : Int) - 1).toNat = (x.undone.take (x.undone.length - 1)).length := by rw [List.length_take]; omega
        exact ⟨_, _, rfl, (by (repeat' apply And.intro) <;> first | trivial | exact Nat.le_of_ble_eq_true rfl), CoR.refl _, ⟨⟨_, rfl, ⟨CoH.refl _, congrArg (HV.ref 901) (by simp), congrArg (HV.ref 902) hlen, CoH.refl _, CoH.refl _, trivial⟩⟩, ⟨_, rfl, (co_app _ (fun _ => rfl) rfl (lt1b (lt1 (CoP.refl _))))⟩, ⟨_, rfl, ⟨fun h => h, rfl, rfl, hlen.symm, fun i j hi hj => CoP.of_eq (lf_take (by have hi : i < ((x.undone.length : Int) - 1).toNat := hi; omega))⟩⟩, ⟨_, rfl, CoO.refl _⟩, trivial⟩⟩
end Go.Hx
end
