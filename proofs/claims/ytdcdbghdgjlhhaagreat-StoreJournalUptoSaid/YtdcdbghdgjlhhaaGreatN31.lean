/- A part of the proof: lemmas for the theorem of this claim, merged by a program of ours out of W35, Sp12, Sp13. -/
import Derived.Test.YtdcdbghdgjlhhaaGreatN30
set_option linter.all false
section
namespace Go.Hx
open Go.Proofs
set_option maxRecDepth 100000
theorem good24 : goodFn Tryz.prog 24 := ⟨Tryz.f24, Tryz.func24, by kernel_rfl, by kernel_rfl⟩
theorem c24h (x : Str) (hd : dbV x.db) (hd1 : x.done.length ≤ 68719476736) (hu : x.undone.length ≤ 68719476736) (hc : ¬ (x.opn = true ∨ x.done.length = 0) → (x.done.getD ((x.done.length : Int) - 1).toNat default).length ≤ 68719476736 ∧ ∀ i, i < (x.done.getD ((x.done.length : Int) - 1).toNat default).length → RvOk (rvN x.db (x.done.getD ((x.done.length : Int) - 1).toNat default) i) ((x.done.getD ((x.done.length : Int) - 1).toNat default).getD ((x.done.getD ((x.done.length : Int) - 1).toNat default).length - 1 - i) default)) : HFun Tryz.prog 24 [.one (.ptr 1000 0)] x.objs (.v (.one (.p (.raw (.int .i64 (udE x)))))) (udS x).objs [1000] := by
  refine hfun_of (nt := 51) Tryzok Tryz.func24 rfl rfl (Nat.le_of_ble_eq_true rfl) rfl ?_; refine hw_fin ?_
  have hnu : x.done.length ≤ 68719476736 := hd1
  refine hw_seq ?_; refine hw_region (E := TryzE) Tryzok ?_; refine rq rfl rfl rfl rfl rfl ?_; refine rg_nil ?_; show HW _ _ _ _ _; refine hw_seq ?_; refine hw_region (E := TryzE) Tryzok ?_
  (iterate 6 refine rq rfl rfl rfl rfl rfl ?_); refine rg_nil ?_; show HW _ _ _ _ _; (iterate 2 refine hw_seq ?_); refine hw_region (E := TryzE) Tryzok ?_; (iterate 5 refine rq rfl rfl rfl rfl rfl ?_)
  refine rsplit rfl rfl (fun r0 => ?_) (fun r0 => ?_)
  · skip
    have h0 := r0
    (iterate 2 refine rk rfl rfl rfl (gtf r0) ?_); refine rq rfl rfl rfl rfl rfl ?_ (hp := r0); refine rg_nil ?_; show HW _ _ _ _ _; refine hw_cond _ rfl (fun _ => ?_) (fun e => by cases e); refine hw_seq ?_
    refine hw_region (E := TryzE) Tryzok ?_; refine rq rfl rfl rfl rfl rfl ?_; refine rg_nil ?_; show HW _ _ _ _ _; refine hw_ret ?_
    show HE _ _ _
    refine he_done ?_; refine ⟨.inr rfl, ?_⟩
    have hc : x.opn = true ∨ x.done.length = 0 := by first | exact .inl (by assumption) | exact .inr (by omega)
    rw [show udE x = 16 from if_pos hc, show udS x = x from if_pos hc]
    exact ⟨_, _, rfl, (by (repeat' apply And.intro) <;> first | trivial | exact Nat.le_of_ble_eq_true rfl), CoR.refl _, ⟨⟨_, rfl, CoO.refl _⟩, ⟨_, rfl, CoO.refl _⟩, ⟨_, rfl, CoO.refl _⟩, ⟨_, rfl, CoO.refl _⟩, trivial⟩⟩
  · skip
    have h0 := r0
    (iterate 2 refine rq rfl rfl rfl rfl (gff r0) ?_); refine rq rfl rfl rfl rfl rfl ?_; refine rg_nil ?_; show HW _ _ _ _ _; refine hw_cond _ rfl (fun r1 => ?_) (fun r1 => ?_)
    · skip
      have h1 := r1
      have h1 := bif_f r0 h1
      have h1 := of_decide_eq_true h1
      try simp only [Int.toNat_natCast] at h1
      refine hw_seq ?_; refine hw_region (E := TryzE) Tryzok ?_; refine rq rfl rfl rfl rfl rfl ?_; refine rg_nil ?_; show HW _ _ _ _ _; refine hw_ret ?_
      show HE _ _ _
      refine he_done ?_; refine ⟨.inr rfl, ?_⟩
      have hc : x.opn = true ∨ x.done.length = 0 := by first | exact .inl (by assumption) | exact .inr (by omega)
      rw [show udE x = 16 from if_pos hc, show udS x = x from if_pos hc]
      exact ⟨_, _, rfl, (by (repeat' apply And.intro) <;> first | trivial | exact Nat.le_of_ble_eq_true rfl), CoR.refl _, ⟨⟨_, rfl, CoO.refl _⟩, ⟨_, rfl, CoO.refl _⟩, ⟨_, rfl, CoO.refl _⟩, ⟨_, rfl, CoO.refl _⟩, trivial⟩⟩
    · skip
      have h1 := r1
      have h1 := bif_f r0 h1
      have h1 := of_decide_eq_false h1
      try simp only [Int.toNat_natCast] at h1
      refine hw_skip ?_; show HW _ _ _ _ _; refine hw_seq ?_; refine hw_region (E := TryzE) Tryzok ?_; (iterate 9 refine rq rfl rfl rfl rfl rfl ?_); refine rg_nil ?_; show HW _ _ _ _ _; refine hw_seq ?_
      have hc2 := hc (by rintro (h | h) <;> first | (simp_all; done) | omega)
      refine hw_clean ⟨[(0, some _), (3, some _), (4, some _)], [(1000, some _), (901, some _), (902, some _), (903, some _)]⟩ ⟨⟨⟨_, rfl, CoR.refl _⟩, ⟨_, rfl, CoR.refl _⟩, ⟨_, rfl, CoR.refl _⟩, trivial⟩, ⟨⟨_, rfl, CoO.refl _⟩, ⟨_, rfl, CoO.refl _⟩, ⟨_, rfl, CoO.refl _⟩, ⟨_, rfl, CoO.refl _⟩, trivial⟩⟩ ?_
      refine hw_region (E := TryzE) Tryzok ?_; (iterate 2 refine rq rfl rfl rfl rfl rfl ?_)
      refine rg_fcall rfl rfl rfl rfl rfl rfl good53 (c53h x (x.done.getD ((x.done.length : Int) - 1).toNat default) hd hc2.1 hc2.2) (CoHCL.refl _) ⟨⟨_, rfl, CoO.refl _⟩, ⟨_, rfl, CoO.refl _⟩, ⟨_, rfl, CoO.refl _⟩, ⟨_, rfl, CoO.refl _⟩, trivial⟩ rfl rfl ?_
      refine rg_nil ?_; show HW _ _ _ _ _; refine hw_seq ?_; refine hw_freeze_cell 1000 1 rfl rfl rfl rfl rfl ?_
      refine hw_draw (E := TryzE) Tryzok Tryzmixed [0, 2, 3, 4, 5, 6, 7, 8, 9, 10, 11, 12, 13, 14, 15, 16, 17, 18, 19, 20, 1, 21, 22, 23] ?_; (iterate 15 refine rq rfl rfl rfl rfl rfl ?_); refine rm 0 rfl rfl rfl rfl rfl rfl ?_
      refine ra 1 true rfl rfl rfl rfl rfl rfl ?_; (iterate 2 refine rq rfl rfl rfl rfl rfl ?_); refine rs rfl rfl rfl rfl rfl ?_; (iterate 3 refine rq rfl rfl rfl rfl rfl ?_); refine rs rfl rfl rfl rfl rfl ?_; refine rg_nil ?_
      refine ⟨by kernel_rfl, ?_⟩; show HW _ _ _ _ _; refine hw_seq ?_; refine hw_region (E := TryzE) Tryzok ?_; refine rq rfl rfl rfl rfl rfl ?_; refine rg_nil ?_; show HW _ _ _ _ _; refine hw_ret ?_
      show HE _ _ _
      refine he_sub ⟨[(2, some _)], [(1000, some _), (902, some _), (903, some _)]⟩ ⟨⟨⟨_, rfl, CoR.refl _⟩, trivial⟩, ⟨⟨_, rfl, CoO.refl _⟩, ⟨_, rfl, CoO.refl _⟩, ⟨_, rfl, CoO.refl _⟩, trivial⟩⟩ ?_
      refine he_adopt_cell 1000 1 901 false 1 23 (lf txC x.done) (by decide) rfl rfl (CoP.refl _) (.inl rfl) rfl rfl ?_; refine he_done ?_; refine ⟨.inr rfl, ?_⟩
      have hc : ¬ (x.opn = true ∨ x.done.length = 0) := by rintro (h | h) <;> first | (simp_all; done) | omega
      rw [show udE x = 0 from if_neg hc, show udS x = { x with db := rvN x.db (x.done.getD ((x.done.length : Int) - 1).toNat default) (x.done.getD ((x.done.length : Int) - 1).toNat default).length, undone := x.undone ++ [(x.done.getD ((x.done.length : Int) - 1).toNat default)], done := x.done.take (x.done.length - 1) } from if_neg hc]
      have hlen : ((x.done.length : Int) - 1).toNat = (x.done.take (x.done.length - 1)).length := by rw [List.length_take]; omega
      exact ⟨_, _, rfl, (by (repeat' apply And.intro) <;> first | trivial | exact Nat.le_of_ble_eq_true rfl), CoR.refl _, ⟨⟨_, rfl, ⟨CoH.refl _, congrArg (HV.ref 901) hlen, congrArg (HV.ref 902) (by simp), CoH.refl _, CoH.refl _, trivial⟩⟩, ⟨_, rfl, ⟨fun h => h, rfl, rfl, hlen.symm, fun i j hi hj => CoP.of_eq (lf_take (by have hi : i < ((x.done.length : Int) - 1).toNat := hi; omega))⟩⟩, ⟨_, rfl, (co_app _ (fun _ => rfl) rfl (lt1b (lt1 (CoP.refl _))))⟩, ⟨_, rfl, CoO.refl _⟩, trivial⟩⟩
theorem good29 : goodFn Tryz.prog 29 := ⟨Tryz.f29, Tryz.func29, by kernel_rfl, by kernel_rfl⟩
theorem c29h (x : Str) (hd : dbV x.db) (hl : x.now.length ≤ 68719476736) (hr : x.opn = true → ∀ i, i < x.now.length → RvOk (rvN x.db x.now i) (x.now.getD (x.now.length - 1 - i) default)) : HFun Tryz.prog 29 [.one (.ptr 1000 0)] x.objs (.v (.one (.p (.raw (.int .i64 (enE x)))))) (rbS x).objs [1000] := by
  refine hfun_of (nt := 14) Tryzok Tryz.func29 rfl rfl (Nat.le_of_ble_eq_true rfl) rfl ?_; refine hw_fin ?_
  have hd2 : dbV (enS x).db := by unfold enS; split <;> exact hd
  have hl2 : (enL x).length ≤ 68719476736 := by unfold enL; split <;> first | exact hl | exact Nat.zero_le _
  have hr2 : ∀ i, i < (enL x).length → RvOk (rvN (enS x).db (enL x) i) ((enL x).getD ((enL x).length - 1 - i) default) := by
      by_cases ho : x.opn = true
      · rw [show enL x = x.now from if_pos ho, show (enS x).db = x.db by rw [enS, if_pos ho]]; exact hr ho
      · rw [show enL x = [] from if_neg ho]; intro i hi; exact absurd hi (Nat.not_lt_zero i)
  refine hw_seq ?_; refine hw_region (E := TryzE) Tryzok ?_; refine rq rfl rfl rfl rfl rfl ?_; refine rg_nil ?_; show HW _ _ _ _ _; refine hw_seq ?_; refine hw_region (E := TryzE) Tryzok ?_; refine rq rfl rfl rfl rfl rfl ?_
  refine rg_fcall rfl rfl rfl rfl rfl rfl good55 (c55h x) (CoHCL.refl _) ⟨⟨_, rfl, CoO.refl _⟩, ⟨_, rfl, CoO.refl _⟩, ⟨_, rfl, CoO.refl _⟩, ⟨_, rfl, CoO.refl _⟩, trivial⟩ rfl rfl ?_; (iterate 5 refine rq rfl rfl rfl rfl rfl ?_)
  refine rg_nil ?_; show HW _ _ _ _ _; refine hw_seq ?_; refine hw_region (E := TryzE) Tryzok ?_; (iterate 2 refine rq rfl rfl rfl rfl rfl ?_)
  refine rg_fcall rfl rfl rfl rfl rfl rfl good53 (c53h (enS x) (enL x) hd2 hl2 hr2) (CoHCL.refl _) ⟨⟨_, rfl, CoO.refl _⟩, ⟨_, rfl, CoO.refl _⟩, ⟨_, rfl, CoO.refl _⟩, ⟨_, rfl, CoO.refl _⟩, trivial⟩ rfl rfl ?_; refine rg_nil ?_
  show HW _ _ _ _ _; refine hw_seq ?_; refine hw_region (E := TryzE) Tryzok ?_; (iterate 2 refine rq rfl rfl rfl rfl rfl ?_); refine rg_nil ?_; show HW _ _ _ _ _; refine hw_ret ?_
  show HE _ _ _
  refine he_done ?_; refine ⟨.inr rfl, ?_⟩
  exact ⟨_, _, rfl, (by (repeat' apply And.intro) <;> first | trivial | exact Nat.le_of_ble_eq_true rfl), CoR.refl _, ⟨⟨_, rfl, CoO.refl _⟩, ⟨_, rfl, CoO.refl _⟩, ⟨_, rfl, CoO.refl _⟩, ⟨_, rfl, CoO.refl _⟩, trivial⟩⟩
end Go.Hx
end
section
namespace Go.Hx
theorem idx_cons {α : Type} {p : α → Bool} {x : α} {l : List α} : idx p (x :: l) = if p x = true then 0 else if idx p l < 0 then -1 else idx p l + 1 := by
  unfold idx
  rw [List.findIdx?_cons]
  by_cases h : p x = true
  · simp [h]
  · simp only [h, if_false]
    cases hf : l.findIdx? p with
    | none => simp
    | some i =>
      simp
      omega
theorem idx_map {α β : Type} {f : α → β} {q : β → Bool} {l : List α} : idx (fun x => q (f x)) l = idx q (l.map f) := by
  induction l with
  | nil => rfl
  | cons x l ih => rw [List.map_cons, idx_cons, idx_cons, ih]
theorem tblIx_map {d d' : DB} {s : ByteArray} (h : d'.map Tbl.name = d.map Tbl.name) : tblIx d' s = tblIx d s := by
  unfold tblIx
  rw [idx_map (f := Tbl.name) (q := fun n => decide (n = s)), idx_map (f := Tbl.name) (q := fun n => decide (n = s)) (l := d), h]
theorem rowIx_map {l l' : List Row} {id : Int} (h : l'.map Row.id = l.map Row.id) : rowIx l' id = rowIx l id := by
  unfold rowIx
  rw [idx_map (f := Row.id) (q := fun n => decide (n = id)), idx_map (f := Row.id) (q := fun n => decide (n = id)) (l := l), h]
theorem set_names {d : DB} {i : Nat} {u : Tbl} (hi : i < d.length) (h : u.name = (d.getD i default).name) : (d.set i u).map Tbl.name = d.map Tbl.name := by
  apply List.ext_getElem?
  intro j
  rw [List.getElem?_map, List.getElem?_map, List.getElem?_set]
  split
  · rename_i e
    subst e
    rw [List.getElem?_eq_getElem hi]
    simp [h, List.getD, List.getElem?_eq_getElem hi]
  · rfl
theorem ins_back {r : Row} : ∀ {l : List Row}, (∀ x ∈ l, x.id ≠ r.id) → 0 ≤ rowIx (insR r l) r.id ∧ (insR r l).eraseIdx (rowIx (insR r l) r.id).toNat = l ∧ (insR r l).getD (rowIx (insR r l) r.id).toNat default = r
  | [], _ => by simp [insR, rowIx, idx_cons]
  | x :: l, h => by
    simp only [insR]
    split
    · simp [rowIx, idx_cons]
    · have hx : ¬ x.id = r.id := h x (by simp)
      obtain ⟨h1, h2, h3⟩ := ins_back (r := r) (l := l) fun y hy => h y (by simp [hy])
      have e : rowIx (x :: insR r l) r.id = rowIx (insR r l) r.id + 1 := by
        unfold rowIx at *
        rw [idx_cons, if_neg (by simpa using hx), if_neg (by omega)]
      rw [e]
      obtain ⟨k, hk⟩ := Int.eq_ofNat_of_zero_le h1
      rw [hk] at h2 h3 ⊢
      simp only [Int.toNat_natCast] at h2 h3
      have : ((k : Int) + 1).toNat = k + 1 := by omega
      rw [this]
      refine ⟨by omega, ?_, ?_⟩
      · simp [h2]
      · simpa using h3
theorem del_back : ∀ {l : List Row} {k : Nat}, Sorted l → k < l.length → insR (l.getD k default) (l.eraseIdx k) = l
  | x :: l, 0, hs, _ => by
    unfold Sorted at hs
    rw [List.pairwise_cons] at hs
    simp only [List.getD_cons_zero, List.eraseIdx_cons_zero]
    cases l with
    | nil => rfl
    | cons y l => simp only [insR]; rw [if_pos (hs.1 y (by simp))]
  | x :: l, k + 1, hs, hk => by
    unfold Sorted at hs
    rw [List.pairwise_cons] at hs
    have hk : k < l.length := by simpa using hk
    simp only [List.getD_cons_succ, List.eraseIdx_cons_succ, insR]
    have : x.id < (l.getD k default).id := by rw [getD_lt _ _ hk]; exact hs.1 _ (List.getElem_mem hk)
    rw [if_neg (by omega), del_back hs.2 hk]
theorem del_none : ∀ {l : List Row} {k : Nat}, Sorted l → k < l.length → ∀ x ∈ l.eraseIdx k, x.id ≠ (l.getD k default).id
  | y :: l, 0, hs, _, x, hx => by
    unfold Sorted at hs
    rw [List.pairwise_cons] at hs
    have := hs.1 x (by simpa using hx)
    simp only [List.getD_cons_zero]
    omega
  | y :: l, k + 1, hs, hk, x, hx => by
    unfold Sorted at hs
    rw [List.pairwise_cons] at hs
    have hk2 : k < l.length := by simpa using hk
    simp only [List.getD_cons_succ]
    simp only [List.eraseIdx_cons_succ, List.mem_cons] at hx
    rcases hx with rfl | hx
    · have := hs.1 _ (List.getElem_mem hk2)
      rw [getD_lt _ _ hk2]
      omega
    · exact del_none hs.2 hk2 x hx
theorem rowIx_lt {l : List Row} {id : Int} (h : ∀ x ∈ l, x.id ≠ id) : rowIx l id < 0 := by
  have := idx_f (p := fun r : Row => decide (r.id = id)) (l := l) (fun j hj => by
    rw [getD_lt _ _ hj]
    simpa using h _ (List.getElem_mem hj))
  unfold rowIx
  rw [this]
  omega
theorem set_self {α : Type} [Inhabited α] {l : List α} {i : Nat} (h : i < l.length) : l.set i (l.getD i default) = l := by
  rw [getD_lt _ _ h]
  exact List.set_getElem_self h
theorem max0 {a : Int} (h : 0 ≤ a) : max a 0 = a := by omega
theorem chg_back {t : Tbl} {c : Chg} (hk : 2 ≤ c.kind ∧ c.kind ≤ 4) (hT : TOk t) (h : chgErr t c = 0) : chgErr (chgT t c) (invC c) = 0 ∧ chgT (chgT t c) (invC c) = t ∧ (chgT t c).name = t.name ∧ (c.kind = 4 → 0 ≤ c.attr ∧ c.attr < c.row.vals.length) ∧ c.row.vals.length = t.attrs.length ∧ c.row.vals.all okVal = true := by
  have hV : TOk (chgT t c) := chgT_V h
  have hs := rowsErr_sorted hT.rs
  by_cases h2 : c.kind = 2
  · rw [cE2 h2] at h
    obtain ⟨g1, g2, g3, g4, g5, g6⟩ := insErr_0 h
    have hb := ins_back (r := c.row) (l := t.rows) (rowIx_none g5)
    have ht : chgT t c = ⟨t.name, t.attrs, insR c.row t.rows⟩ := by rw [cT2 h2, insT_ok h]
    rw [ht] at hV ⊢
    have hki : (invC c).kind = 3 := by rw [inv2 h2]
    have hri : (invC c).row = c.row := by rw [inv2 h2]
    have hd : delErr ⟨t.name, t.attrs, insR c.row t.rows⟩ c.row.id = 0 := by
      unfold delErr
      rw [tok_iff.2 hV]
      simp [hb.1]
    refine ⟨?_, ?_, rfl, fun h4 => by omega, g2, g4⟩
    · rw [cE3 hki (by rw [hri]; exact hb.1) (by rw [hri, max0 hb.1]; show ((insR c.row t.rows).getD _ default).vals = _; rw [hb.2.2]), hri]
      exact hd
    · rw [cT3 hki, hri, delT_ok hd]
      show (⟨t.name, t.attrs, (insR c.row t.rows).eraseIdx _⟩ : Tbl) = t
      rw [hb.2.1]
  · unfold chgErr at h
    rw [if_neg h2] at h
    split at h
    · omega
    · rename_i hr
      have hr : 0 ≤ rowIx t.rows c.row.id := by omega
      split at h
      · omega
      · rename_i hv
        have hv : (t.rows.getD (max (rowIx t.rows c.row.id) 0).toNat default).vals = c.row.vals := by simpa using hv
        have hat := row_at hr
        have hrow : t.rows.getD (max (rowIx t.rows c.row.id) 0).toNat default = c.row := (row_same hr).2 hv
        have hw := hT.width hat
        rw [max0 hr] at hat hrow hw
        have hmem := rowsErr_mem hT.rs _ (List.getElem_mem hat)
        rw [← getD_lt _ _ hat, hrow] at hmem
        rw [hrow] at hw
        split at h
        · rename_i h3
          have ht : chgT t c = ⟨t.name, t.attrs, t.rows.eraseIdx (rowIx t.rows c.row.id).toNat⟩ := by rw [cT3 h3, delT_ok h]
          rw [ht] at hV ⊢
          have hki : (invC c).kind = 2 := by rw [inv3 h3]
          have hri : (invC c).row = c.row := by rw [inv3 h3]
          have hnone := del_none hs hat
          rw [hrow] at hnone
          have hlen : (t.rows.eraseIdx (rowIx t.rows c.row.id).toNat).length = t.rows.length - 1 := List.length_eraseIdx_of_lt hat
          have hnr := hT.nr
          have hi : insErr ⟨t.name, t.attrs, t.rows.eraseIdx (rowIx t.rows c.row.id).toNat⟩ c.row = 0 := by
            unfold insErr
            rw [if_neg (by rw [tok_iff.2 hV]; simp), if_neg (by show ¬ c.row.vals.length ≠ t.attrs.length; omega), if_neg (by rw [hmem.2.2]; simp; exact hmem.1), if_neg (by have := rowIx_lt hnone; show ¬ 0 ≤ rowIx (t.rows.eraseIdx _) _; omega), if_neg (by show ¬ 1000 ≤ (t.rows.eraseIdx _).length; omega)]
          refine ⟨?_, ?_, rfl, fun h4 => by omega, hw, hmem.2.2⟩
          · rw [cE2 hki, hri]; exact hi
          · rw [cT2 hki, hri, insT_ok hi]
            show (⟨t.name, t.attrs, insR c.row (t.rows.eraseIdx _)⟩ : Tbl) = t
            have := del_back hs hat
            rw [hrow] at this
            rw [this]
        · rename_i h3
          have h4 : c.kind = 4 := by omega
          obtain ⟨g1, g2, g3, g4, g5⟩ := chErr_0 h
          have ht : chgT t c = ⟨t.name, t.attrs, setC t.rows (rowIx t.rows c.row.id).toNat c.attr.toNat c.value⟩ := by rw [cT4 h2 h3, chT_ok h]
          rw [ht] at hV ⊢
          have hinv := inv4 h4
          have hki : (invC c).kind = 4 := by rw [hinv]; exact h4
          have hix : rowIx (setC t.rows (rowIx t.rows c.row.id).toNat c.attr.toNat c.value) c.row.id = rowIx t.rows c.row.id := rowIx_map (setC_ids hat)
          have hid : (invC c).row.id = c.row.id := by rw [hinv]
          have hget : (setC t.rows (rowIx t.rows c.row.id).toNat c.attr.toNat c.value).getD (rowIx t.rows c.row.id).toNat default = { c.row with vals := c.row.vals.set c.attr.toNat c.value } := by
            unfold setC
            rw [hrow]
            simp [List.getD, hat]
          have ha : c.attr.toNat < c.row.vals.length := by omega
          have hold : okVal (c.row.vals.getD c.attr.toNat default) = true := by
            rw [getD_lt _ _ ha]
            exact List.all_eq_true.1 hmem.2.2 _ (List.getElem_mem ha)
          have hch : chErr ⟨t.name, t.attrs, setC t.rows (rowIx t.rows c.row.id).toNat c.attr.toNat c.value⟩ c.row.id c.attr (c.row.vals.getD c.attr.toNat default) = 0 := by
            unfold chErr
            rw [if_neg (by rw [tok_iff.2 hV]; simp), if_neg (by show ¬ ¬ 0 ≤ rowIx (setC _ _ _ _) _; rw [hix]; omega), if_neg (by show ¬ (c.attr < 0 ∨ (t.attrs.length : Int) ≤ c.attr); omega), if_neg (by rw [hold]; simp)]
          refine ⟨?_, ?_, rfl, fun _ => ⟨g3, by omega⟩, hw, hmem.2.2⟩
          · rw [cEc (by omega) (by omega) (by rw [hid]; show 0 ≤ rowIx (setC _ _ _ _) _; rw [hix]; exact hr) (by
              rw [hid]
              show ((setC _ _ _ _).getD (max (rowIx (setC _ _ _ _) _) 0).toNat default).vals = _
              rw [hix, max0 hr, hget, hinv]), hid, show (invC c).attr = c.attr by rw [hinv], show (invC c).value = c.row.vals.getD c.attr.toNat default by rw [hinv]]
            exact hch
          · rw [cT4 (by omega) (by omega), hid, show (invC c).attr = c.attr by rw [hinv], show (invC c).value = c.row.vals.getD c.attr.toNat default by rw [hinv], chT_ok hch]
            show (⟨t.name, t.attrs, setC (setC _ _ _ _) (rowIx (setC _ _ _ _) _).toNat _ _⟩ : Tbl) = t
            rw [hix]
            have : setC (setC t.rows (rowIx t.rows c.row.id).toNat c.attr.toNat c.value) (rowIx t.rows c.row.id).toNat c.attr.toNat (c.row.vals.getD c.attr.toNat default) = t.rows := by
              rw [show ∀ (A : List Row) (K a : Nat) (v : Val), setC A K a v = A.set K { A.getD K default with vals := (A.getD K default).vals.set a v } from fun _ _ _ _ => rfl, hget]
              dsimp only
              rw [show ∀ (A : List Row) (K a : Nat) (v : Val), setC A K a v = A.set K { A.getD K default with vals := (A.getD K default).vals.set a v } from fun _ _ _ _ => rfl, List.set_set, List.set_set, set_self ha]
              have := set_self hat
              rw [hrow] at this
              exact this
            rw [this]
theorem rv_back {d : DB} {c : Chg} (hd : dbV d) (h : appErr d c = 0) (hc : c.ok) : rvD (appD d c) c = d ∧ RvOk (appD d c) c := by
  by_cases h1 : c.kind = 1
  · rw [rvD1 h1, aD1 h h1]
    refine ⟨by simp, fun _ => by simp, hc.2.1.1, fun h4 => by omega, ?_⟩
    rw [inv0 (by omega) (by omega) (by omega)]
    exact hc
  · have hk : 2 ≤ c.kind ∧ c.kind ≤ 4 := by
      by_cases hk : c.kind < 1 ∨ 4 < c.kind
      · rw [aE3 hk] at h; omega
      · omega
    have hi : ¬ tblIx d c.name < 0 := fun hi => by rw [aE4 hk hi] at h; omega
    rw [aE5 hk hi] at h
    have hat := tbl_at hi
    obtain ⟨b1, b2, b3, b4, b5, b6⟩ := chg_back hk (hd.at hi) h
    have happ : appD d c = d.set (tblIx d c.name).toNat (chgT (tblAt d c.name) c) := aD2 (by rw [aE5 hk hi]; exact h) h1 rfl
    have hnm : (d.set (tblIx d c.name).toNat (chgT (tblAt d c.name) c)).map Tbl.name = d.map Tbl.name := set_names hat (by rw [b3]; rfl)
    have hin : (invC c).name = c.name := by
      unfold invC
      split
      · rfl
      · split
        · rfl
        · split <;> rfl
    have hik : 2 ≤ (invC c).kind ∧ (invC c).kind ≤ 4 := by
      by_cases h2 : c.kind = 2
      · rw [inv2 h2]; simp
      · by_cases h3 : c.kind = 3
        · rw [inv3 h3]; simp
        · rw [inv4 (by omega)]; exact hk
    have hix : tblIx (d.set (tblIx d c.name).toNat (chgT (tblAt d c.name) c)) (invC c).name = tblIx d c.name := by rw [hin]; exact tblIx_map hnm
    have hta : tblAt (d.set (tblIx d c.name).toNat (chgT (tblAt d c.name) c)) (invC c).name = chgT (tblAt d c.name) c := by
      show (d.set (tblIx d c.name).toNat (chgT (tblAt d c.name) c)).getD (tblIx (d.set (tblIx d c.name).toNat (chgT (tblAt d c.name) c)) (invC c).name).toNat default = _
      rw [hix]
      simp [List.getD, hat]
    have he : appErr (d.set (tblIx d c.name).toNat (chgT (tblAt d c.name) c)) (invC c) = 0 := by
      rw [aE5 hik (by rw [hix]; exact hi), hta]
      exact b1
    refine ⟨?_, fun h => absurd h h1, hc.2.1.1, b4, ?_⟩
    · rw [rvD2 h1, happ, aD2 he (by omega) rfl, hix, hta, b2, List.set_set]
      exact set_self hat
    · have hv : valsOk (c.row.vals.set c.attr.toNat c.value) := fun j hj => by
        rw [getD_lt _ _ hj]
        rcases List.mem_or_eq_of_mem_set (List.getElem_mem hj) with h5 | h5
        · obtain ⟨k, hk', e⟩ := List.getElem_of_mem h5
          rw [← e, ← getD_lt _ _ hk']
          exact hc.2.1.2 k hk'
        · rw [h5]; exact hc.2.2
      by_cases h2 : c.kind = 2
      · rw [inv2 h2]; exact hc
      · by_cases h3 : c.kind = 3
        · rw [inv3 h3]; exact hc
        · have h4 : c.kind = 4 := by omega
          obtain ⟨q1, q2⟩ := b4 h4
          rw [inv4 h4]
          exact ⟨hc.1, ⟨by show (List.set _ _ _).length ≤ _; rw [List.length_set]; exact hc.2.1.1, hv⟩, hc.2.1.2 _ (by omega)⟩
end Go.Hx
end
section
namespace Go.Hx
def strOf (s : Stt) : Str := ⟨dbOf s, s.done, s.undone, s.opn, s.now⟩
def dxE (x : Str) (o : Opn) : Int :=
  let k := o.kind.toNat % 9
  if k = 0 then appErr x.db (chg1 (tblOf o))
  else if k = 1 then appErr x.db (chgR 2 (nmOf o) (rowOf o))
  else if k = 2 then dlE x (nmOf o) o.id
  else if k = 3 then cgE x (nmOf o) o.id o.attr (ofV o.value)
  else if k = 4 then bgE x
  else if k = 5 then enE x
  else if k = 6 then enE x
  else if k = 7 then udE x
  else rdE x
def dxS (x : Str) (o : Opn) : Str :=
  let k := o.kind.toNat % 9
  if k = 0 then pfS x (chg1 (tblOf o))
  else if k = 1 then pfS x (chgR 2 (nmOf o) (rowOf o))
  else if k = 2 then dlS x (nmOf o) o.id
  else if k = 3 then cgS x (nmOf o) o.id o.attr (ofV o.value)
  else if k = 4 then bgS x
  else if k = 5 then cmS (enS x) (enL x)
  else if k = 6 then rbS x
  else if k = 7 then udS x
  else rdS x
structure Sim (n : Nat) (s : Stt) : Prop where
  ch : replE [] (s.done.flatten ++ s.undone.reverse.flatten) = 0
  nw : replE [] (s.done.flatten ++ s.now) = 0
  no : s.opn = false → s.now = []
  ok1 : ∀ c ∈ s.done.flatten, c.ok
  ok2 : ∀ c ∈ s.undone.flatten, c.ok
  ok3 : ∀ c ∈ s.now, c.ok
  n1 : s.done.flatten.length + s.undone.flatten.length + s.now.length ≤ n
  n2 : s.done.length + s.undone.length ≤ n
theorem sim00 : Sim 0 default := ⟨rfl, rfl, (fun _ => rfl), (fun c h => by cases h), (fun c h => by cases h), (fun c h => by cases h), Nat.le_refl _, Nat.le_refl _⟩
theorem redoD_app (d : DB) : ∀ (a b : List Chg), redoD d (a ++ b) = redoD (redoD d a) b
  | [], b => rfl
  | c :: a, b => redoD_app (appD d c) a b
theorem redoD_V {d : DB} (h : dbV d) : ∀ (l : List Chg), dbV (redoD d l)
  | [] => h
  | c :: l => redoD_V (app_V h) l
theorem replE_cons {d : DB} {c : Chg} {l : List Chg} : replE d (c :: l) = 0 ↔ appErr d c = 0 ∧ replE (appD d c) l = 0 := by
  simp only [replE]
  split
  · rename_i h; exact ⟨fun e => absurd e h, fun e => absurd e.1 h⟩
  · rename_i h; exact ⟨fun e => ⟨by omega, e⟩, fun e => e.2⟩
theorem replE_app {d : DB} : ∀ {a b : List Chg}, replE d (a ++ b) = 0 ↔ replE d a = 0 ∧ replE (redoD d a) b = 0
  | [], b => ⟨fun h => ⟨rfl, h⟩, fun h => h.2⟩
  | c :: a, b => by
    rw [List.cons_append, replE_cons, replE_cons, replE_app (a := a)]
    exact ⟨fun h => ⟨⟨h.1, h.2.1⟩, h.2.2⟩, fun h => ⟨h.1.1, h.1.2, h.2⟩⟩
theorem replD_ok : ∀ {l : List Chg} {d : DB}, replE d l = 0 → replD d l = redoD d l
  | [], d, _ => rfl
  | c :: l, d, h => by
    obtain ⟨h1, h2⟩ := replE_cons.1 h
    simp only [replD]
    rw [if_neg (by omega), replD_ok h2]
    rfl
theorem repl_at {d : DB} {l : List Chg} (h : replE d l = 0) {j : Nat} (hj : j < l.length) : appErr (redoD d (l.take j)) (l.getD j default) = 0 := by
  have e : l = l.take j ++ l.getD j default :: l.drop (j + 1) := by
    rw [getD_lt _ _ hj]
    have := List.take_append_drop j l
    rw [List.drop_eq_getElem_cons hj] at this
    exact this.symm
  rw [e] at h
  exact (replE_cons.1 (replE_app.1 h).2).1
theorem take_succ {l : List Chg} {j : Nat} (hj : j < l.length) : l.take (j + 1) = l.take j ++ [l.getD j default] := by
  rw [getD_lt _ _ hj, List.take_succ, List.getElem?_eq_getElem hj]
  rfl
theorem rvN_back {d : DB} {l : List Chg} (hd : dbV d) (h : replE d l = 0) (hok : ∀ c ∈ l, c.ok) : ∀ i, i ≤ l.length → rvN (redoD d l) l i = redoD d (l.take (l.length - i))
  | 0, _ => by simp [rvN]
  | i + 1, hi => by
    simp only [rvN]
    rw [rvN_back hd h hok i (by omega)]
    have hj : l.length - 1 - i < l.length := by omega
    rw [show l.length - i = (l.length - 1 - i) + 1 by omega, take_succ hj, redoD_app]
    have hc : (l.getD (l.length - 1 - i) default).ok := by
      rw [getD_lt _ _ hj]; exact hok _ (List.getElem_mem hj)
    rw [show l.length - (i + 1) = l.length - 1 - i by omega]
    exact (rv_back (redoD_V hd _) (repl_at h hj) hc).1
theorem rvN_ok {d : DB} {l : List Chg} (hd : dbV d) (h : replE d l = 0) (hok : ∀ c ∈ l, c.ok) {i : Nat} (hi : i < l.length) : RvOk (rvN (redoD d l) l i) (l.getD (l.length - 1 - i) default) := by
  rw [rvN_back hd h hok i (by omega)]
  have hj : l.length - 1 - i < l.length := by omega
  rw [show l.length - i = (l.length - 1 - i) + 1 by omega, take_succ hj, redoD_app]
  have hc : (l.getD (l.length - 1 - i) default).ok := by
    rw [getD_lt _ _ hj]; exact hok _ (List.getElem_mem hj)
  exact (rv_back (redoD_V hd _) (repl_at h hj) hc).2
theorem rvN_all {d : DB} {l : List Chg} (hd : dbV d) (h : replE d l = 0) (hok : ∀ c ∈ l, c.ok) : rvN (redoD d l) l l.length = d := by
  rw [rvN_back hd h hok _ (Nat.le_refl _)]
  simp [redoD]
section
variable {n : Nat} {s : Stt} {o : Opn}
theorem Sim.db (h : Sim n s) : dbOf s = redoD [] (s.done.flatten ++ s.now) := replD_ok h.nw
theorem Sim.dbV (h : Sim n s) : dbV (dbOf s) := by rw [h.db]; exact redoD_V dbV_nil _
theorem Sim.jok (h : Sim n s) : chgsOk (jr s) := by
  intro j hj
  rw [getD_lt _ _ hj]
  rcases List.mem_append.1 (List.getElem_mem hj) with h1 | h1
  · exact h.ok1 _ h1
  · exact h.ok3 _ h1
theorem Sim.st (h : Sim n s) (hn : n ≤ 68719476736) : StOk s := ⟨by have := h.n1; omega, by have := h.n1; omega, by have := h.n2; omega, by have := h.n2; omega, h.jok⟩
theorem Sim.sok (h : Sim n s) (hn : n ≤ 68719476736) : SOk (strOf s) := ⟨h.dbV, by have := h.n2; show s.done.length ≤ _; omega, by have := h.n1; show s.now.length ≤ _; omega⟩
theorem Sim.mono {m : Nat} (h : Sim n s) (hm : n ≤ m) : Sim m s := ⟨h.ch, h.nw, h.no, h.ok1, h.ok2, h.ok3, Nat.le_trans h.n1 hm, Nat.le_trans h.n2 hm⟩
theorem valOk_small {v : Val} (h : v.str.size ≤ 200) : v.ok := by unfold Val.ok; omega
theorem ofI_ok (k : Int) : (ofI k).ok := by
  unfold ofI
  repeat' split
  all_goals exact valOk_small (Nat.le_of_ble_eq_true rfl)
theorem ofV_ok (c : UInt8) : (ofV c).ok := ofI_ok _
theorem val0_ok : (default : Val).ok := Nat.zero_le _
theorem row0_ok : (default : Row).ok := ⟨Nat.zero_le _, fun j hj => by cases hj⟩
theorem tbl0_ok : (default : Tbl).ok := ⟨Nat.zero_le _, Nat.zero_le _, fun j hj => by cases hj⟩
theorem rowOf_ok (ho : OpOk o) : (rowOf o).ok := by
  refine ⟨by show (o.vals.map ofV).length ≤ _; rw [List.length_map]; exact ho.lv, fun j hj => ?_⟩
  have hj : j < (o.vals.map ofV).length := hj
  rw [List.length_map] at hj
  show ((o.vals.map ofV).getD j default).ok
  rw [getD_map _ _ _ hj]
  exact ofV_ok _
theorem wideVals_ok {l : List UInt8} {n : Nat} : valsOk (wideVals l n) := by
  intro j hj
  rw [wv_len] at hj
  unfold wideVals
  rw [getD_rmap _ _ _ hj]
  exact ofV_ok _
theorem tblOf_ok (ho : OpOk o) : (tblOf o).ok := by
  refine ⟨?_, ?_, fun j hj => ?_⟩
  · show (letters8.take _).length ≤ _
    rw [List.length_take]
    show min _ 8 ≤ _
    omega
  · show (wideRows o.t _).length ≤ _
    rw [wr_len]; exact ho.lr
  · have hj : j < (wideRows o.t (o.t.attrs.toNat % 4)).length := hj
    rw [wr_len] at hj
    show ((wideRows o.t (o.t.attrs.toNat % 4)).getD j default).ok
    unfold wideRows
    rw [getD_rmap _ _ _ hj]
    exact ⟨by show (wideVals _ _).length ≤ _; rw [wv_len]; omega, wideVals_ok⟩
theorem chg1_ok {t : Tbl} (h : t.ok) : (chg1 t).ok := ⟨h, row0_ok, val0_ok⟩
theorem chgR_ok {k : Int} {nm : ByteArray} {r : Row} (h : r.ok) : (chgR k nm r).ok := ⟨tbl0_ok, h, val0_ok⟩
theorem chg4_ok {nm : ByteArray} {r : Row} {a : Int} {v : Val} (h : r.ok) (hv : v.ok) : (chg4 nm r a v).ok := ⟨tbl0_ok, h, hv⟩
theorem bfR_ok {d : DB} (hd : dbV d) {nm : ByteArray} {id : Int} : (bfR d nm id).ok := by
  unfold bfR
  split
  · rename_i h
    unfold bfE at h
    split at h
    · omega
    · rename_i h1
      split at h
      · omega
      · rename_i h2
        exact (hd.at h1).ok.2.2 _ (row_at (by omega))
  · exact row0_ok
theorem tbl_name {d : DB} {nm : ByteArray} (h : ¬ tblIx d nm < 0) : (tblAt d nm).name = nm := by
  have := (idx_spec (p := fun t : Tbl => decide (t.name = nm)) (l := d) (by unfold tblIx at h; omega)).2
  simpa [tblAt, tblIx] using this
theorem chg4_err {t : Tbl} (hT : TOk t) {nm : ByteArray} {id a : Int} {v : Val} (hr : 0 ≤ rowIx t.rows id) : chgErr t (chg4 nm (t.rows.getD (max (rowIx t.rows id) 0).toNat default) a v) = chErr t id a v := by
  have hid := row_id hr
  rw [cEc (by show ¬ (4 : Int) = 2; omega) (by show ¬ (4 : Int) = 3; omega) (by show 0 ≤ rowIx t.rows (t.rows.getD _ default).id; rw [hid]; exact hr) (by show (t.rows.getD (max (rowIx t.rows (t.rows.getD _ default).id) 0).toNat default).vals = _; rw [hid]; rfl)]
  show chErr t (t.rows.getD _ default).id a v = _
  rw [hid]
theorem chg3_err {t : Tbl} (hT : TOk t) {nm : ByteArray} {id : Int} (hr : 0 ≤ rowIx t.rows id) : chgErr t (chgR 3 nm (t.rows.getD (max (rowIx t.rows id) 0).toNat default)) = 0 := by
  have hid := row_id hr
  rw [cE3 rfl (by show 0 ≤ rowIx t.rows (t.rows.getD _ default).id; rw [hid]; exact hr) (by show (t.rows.getD (max (rowIx t.rows (t.rows.getD _ default).id) 0).toNat default).vals = _; rw [hid]; rfl)]
  show delErr t (t.rows.getD _ default).id = 0
  rw [hid]
  unfold delErr
  rw [if_neg (by rw [tok_iff.2 hT]; simp), if_pos hr]
theorem put_sim (h : Sim n s) {c : Chg} (hc : c.ok) (he : appErr (dbOf s) c = 0) : pfS (strOf s) c = strOf (putS s c) ∧ Sim (n + 1) (putS s c) := by
  have hrep : replE [] (s.done.flatten ++ (s.now ++ [c])) = 0 := by
    rw [← List.append_assoc]
    refine replE_app.2 ⟨h.nw, replE_cons.2 ⟨by rw [← h.db]; exact he, rfl⟩⟩
  have hdb : appD (dbOf s) c = replD [] (s.done.flatten ++ (s.now ++ [c])) := by
    rw [replD_ok hrep, ← List.append_assoc, redoD_app, ← h.db]
    rfl
  have n1 := h.n1
  have n2 := h.n2
  by_cases ho : s.opn = true
  · have e : putS s c = { s with now := s.now ++ [c] } := if_pos ho
    rw [e]
    refine ⟨?_, ⟨h.ch, hrep, (fun hf => by rw [ho] at hf; cases hf), h.ok1, h.ok2, fun q hq => ?_, ?_, Nat.le_trans n2 (Nat.le_succ n)⟩⟩
    · unfold pfS
      rw [if_neg (by show ¬ appErr (dbOf s) c ≠ 0; omega), if_pos (show (strOf s).opn = true from ho)]
      unfold strOf
      rw [hdb]
      rfl
    · rcases List.mem_append.1 hq with hq | hq
      · exact h.ok3 q hq
      · rw [List.mem_singleton.1 hq]; exact hc
    · show _ + (s.now ++ [c]).length ≤ _
      rw [List.length_append]
      simp only [List.length_singleton]
      omega
  · have hnow : s.now = [] := h.no (by simpa using ho)
    have e : putS s c = ⟨s.done ++ [[c]], [], false, []⟩ := by rw [putS, if_neg ho, comS, if_neg (by simp)]
    have hfl : (s.done ++ [[c]]).flatten = s.done.flatten ++ [c] := by simp
    rw [hnow, List.nil_append] at hrep hdb
    rw [e]
    refine ⟨?_, ⟨?_, ?_, fun _ => rfl, ?_, (fun q hq => by cases hq), (fun q hq => by cases hq), ?_, ?_⟩⟩
    · unfold pfS
      rw [if_neg (by show ¬ appErr (dbOf s) c ≠ 0; omega), if_neg (show ¬ (strOf s).opn = true from ho), cmS, if_neg (by simp)]
      have ho' : s.opn = false := by simpa using ho
      show (⟨appD (dbOf s) c, s.done ++ [[c]], [], s.opn, s.now⟩ : Str) = ⟨replD [] ((s.done ++ [[c]]).flatten ++ []), s.done ++ [[c]], [], false, []⟩
      rw [hfl, List.append_nil, ← hdb, hnow, ho']
    · show replE [] ((s.done ++ [[c]]).flatten ++ [].reverse.flatten) = 0
      simpa [hfl] using hrep
    · show replE [] ((s.done ++ [[c]]).flatten ++ []) = 0
      simpa [hfl] using hrep
    · intro q hq
      have hq : q ∈ (s.done ++ [[c]]).flatten := hq
      rw [hfl] at hq
      rcases List.mem_append.1 hq with hq | hq
      · exact h.ok1 q hq
      · rw [List.mem_singleton.1 hq]; exact hc
    · show (s.done ++ [[c]]).flatten.length + ([] : List (List Chg)).flatten.length + ([] : List Chg).length ≤ n + 1
      rw [hfl, List.length_append]
      simp only [List.length_singleton, List.flatten_nil, List.length_nil]
      omega
    · show (s.done ++ [[c]]).length + 0 ≤ n + 1
      simp
      omega
theorem put_err {x : Str} {c : Chg} (h : appErr x.db c ≠ 0) : pfS x c = x := if_pos h
end
end Go.Hx
end
