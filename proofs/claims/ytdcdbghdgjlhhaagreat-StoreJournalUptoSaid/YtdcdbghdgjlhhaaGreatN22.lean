/- A part of the proof: lemmas for the theorem of this claim, merged by a program of ours out of Sp5, W11, W12. -/
import Derived.Test.YtdcdbghdgjlhhaaGreatN19
import Derived.Test.YtdcdbghdgjlhhaaGreatN21
set_option linter.all false
section
namespace Go.Hx
theorem mem_insR {r x : Row} : ∀ {l : List Row}, x ∈ insR r l ↔ x = r ∨ x ∈ l
  | [] => by simp [insR]
  | y :: l => by
    simp only [insR]
    split
    · simp
    · simp only [List.mem_cons, mem_insR (l := l)]
      constructor
      · rintro (h | h | h) <;> simp [h]
      · rintro (h | h | h) <;> simp [h]
theorem sorted_insR {r : Row} : ∀ {l : List Row}, Sorted l → (∀ x ∈ l, x.id ≠ r.id) → Sorted (insR r l)
  | [], _, _ => by simp [insR, Sorted]
  | y :: l, hs, hn => by
    have hs' := hs
    unfold Sorted at hs'
    rw [List.pairwise_cons] at hs'
    simp only [insR]
    split
    · rename_i h
      refine List.Pairwise.cons (fun x hx => ?_) hs
      rcases List.mem_cons.1 hx with rfl | hx
      · exact h
      · have := hs'.1 x hx; omega
    · rename_i h
      refine List.Pairwise.cons (fun x hx => ?_) (sorted_insR hs'.2 fun x hx => hn x (by simp [hx]))
      rcases mem_insR.1 hx with rfl | hx
      · have := hn y (by simp); omega
      · exact hs'.1 x hx
theorem rowIx_none {l : List Row} {id : Int} (h : rowIx l id < 0) : ∀ x ∈ l, x.id ≠ id := by
  intro x hx e
  have h2 := idx_any (p := fun r : Row => decide (r.id = id)) (l := l)
  have h3 : (l.any fun r => decide (r.id = id)) = true := by rw [List.any_eq_true]; exact ⟨x, hx, by simp [e]⟩
  rw [h3] at h2
  simp only [decide_eq_true_eq] at h2
  unfold rowIx at h
  omega
theorem insT_V {t : Tbl} {r : Row} (h : insErr t r = 0) : TOk (insT t r) := by
  obtain ⟨h1, h2, h3, h4, h5, h6⟩ := insErr_0 h
  have hT := tok_iff.1 h1
  rw [insT_ok h]
  refine ⟨hT.nm, hT.na, by show (insR r t.rows).length ≤ 1000; rw [insR_len]; omega, hT.nms, ?_⟩; refine rowsErr_mk (fun x hx => ?_) (sorted_insR (rowsErr_sorted hT.rs) (rowIx_none h5))
  rcases mem_insR.1 hx with rfl | hx
  · exact ⟨h3, h2, h4⟩
  · exact rowsErr_mem hT.rs x hx
theorem delErr_0 {t : Tbl} {i : Int} (h : delErr t i = 0) : tblErr t = 0 ∧ 0 ≤ rowIx t.rows i := by
  unfold delErr at h
  split at h
  · omega
  · split at h
    · exact ⟨by omega, by assumption⟩
    · omega
theorem delT_V {t : Tbl} {i : Int} (h : delErr t i = 0) : TOk (delT t i) := by
  have hT := tok_iff.1 (delErr_0 h).1
  rw [delT_ok h]
  have hsub := List.eraseIdx_sublist t.rows (rowIx t.rows i).toNat
  refine ⟨hT.nm, hT.na, by have := hsub.length_le; have := hT.nr; show (t.rows.eraseIdx _).length ≤ 1000; omega, hT.nms, ?_⟩
  exact rowsErr_mk (fun x hx => rowsErr_mem hT.rs x (hsub.subset hx)) (List.Pairwise.sublist hsub (rowsErr_sorted hT.rs))
theorem chErr_0 {t : Tbl} {i a : Int} {v : Val} (h : chErr t i a v = 0) : tblErr t = 0 ∧ 0 ≤ rowIx t.rows i ∧ 0 ≤ a ∧ a < t.attrs.length ∧ okVal v = true := by
  unfold chErr at h
  split at h
  · omega
  · split at h
    · omega
    · split at h
      · omega
      · split at h
        · omega
        · rename_i h1 h2 h3 h4
          exact ⟨by omega, by omega, by omega, by omega, by simpa using h4⟩
theorem setC_ids {l : List Row} {i k : Nat} {v : Val} (hi : i < l.length) : (setC l i k v).map Row.id = l.map Row.id := by
  unfold setC
  apply List.ext_getElem?
  intro j
  rw [List.getElem?_map, List.getElem?_map, List.getElem?_set]
  split
  · rename_i h
    subst h
    rw [List.getElem?_eq_getElem hi]
    simp [List.getD, List.getElem?_eq_getElem hi]
  · rfl
theorem sorted_ids {l : List Row} : Sorted l ↔ (l.map Row.id).Pairwise (· < ·) := by
  rw [List.pairwise_map]
theorem chT_V {t : Tbl} {i a : Int} {v : Val} (h : chErr t i a v = 0) : TOk (chT t i a v) := by
  obtain ⟨h1, h2, h3, h4, h5⟩ := chErr_0 h
  have hT := tok_iff.1 h1
  have hix : (rowIx t.rows i).toNat < t.rows.length := by have := row_at h2; rwa [show max (rowIx t.rows i) 0 = rowIx t.rows i from by omega] at this
  rw [chT_ok h]
  refine ⟨hT.nm, hT.na, by show (setC _ _ _ _).length ≤ 1000; rw [setC_len]; exact hT.nr, hT.nms, ?_⟩; refine rowsErr_mk (fun x hx => ?_) (by rw [sorted_ids, setC_ids hix, ← sorted_ids]; exact rowsErr_sorted hT.rs)
  have hold := rowsErr_mem hT.rs _ (List.getElem_mem hix)
  have hgd := getD_lt _ _ hix
  unfold setC at hx
  rcases List.mem_or_eq_of_mem_set hx with hx | rfl
  · exact rowsErr_mem hT.rs x hx
  · refine ⟨by show 0 < (t.rows.getD _ default).id; rw [hgd]; exact hold.1, by show (List.set _ _ _).length = _; rw [List.length_set, hgd]; exact hold.2.1, ?_⟩
    rw [List.all_eq_true]
    intro y hy
    rcases List.mem_or_eq_of_mem_set hy with hy | rfl
    · rw [hgd] at hy
      exact List.all_eq_true.1 hold.2.2 y hy
    · exact h5
theorem chgT_V {t : Tbl} {c : Chg} (h : chgErr t c = 0) : TOk (chgT t c) := by
  unfold chgErr at h
  unfold chgT
  split at h
  · rename_i h2; rw [if_pos h2]; exact insT_V h
  · rename_i h2
    rw [if_neg h2]
    split at h
    · omega
    · split at h
      · omega
      · split at h
        · rename_i h3; rw [if_pos h3]; exact delT_V h
        · rename_i h3; rw [if_neg h3]; exact chT_V h
theorem app_V {d : DB} {c : Chg} (hd : dbV d) : dbV (appD d c) := by
  by_cases he : appErr d c = 0
  · unfold appErr at he
    split at he
    · rename_i h1
      split at he
      · omega
      · obtain ⟨g1, g2, g3⟩ := crErr_0 he
        have he' : appErr d c = 0 := by rw [aE2 h1 (by simp_all)]; exact he
        rw [aD1 he' h1]
        refine ⟨by simp; omega, fun j hj => ?_⟩
        by_cases h : j < d.length
        · rw [show (d ++ [c.table]).getD j default = d.getD j default from by simp [List.getD, List.getElem?_append_left h]]
          exact hd.2 j h
        · obtain rfl : j = d.length := by simp at hj; omega
          rw [show (d ++ [c.table]).getD d.length default = c.table from by simp [List.getD]]
          exact g1
    · rename_i h1
      split at he
      · omega
      · split at he
        · omega
        · rename_i h2 h3
          have he' : appErr d c = 0 := by rw [aE5 (by omega) h3]; exact he
          rw [aD2 he' h1 rfl]
          refine ⟨by rw [List.length_set]; exact hd.1, fun j hj => ?_⟩
          rw [List.length_set] at hj
          by_cases h : j = (tblIx d c.name).toNat
          · subst h
            rw [show (d.set (tblIx d c.name).toNat (chgT (tblAt d c.name) c)).getD (tblIx d c.name).toNat default = chgT (tblAt d c.name) c from by simp [List.getD, hj]]
            exact tok_iff.2 (chgT_V he)
          · rw [show (d.set (tblIx d c.name).toNat (chgT (tblAt d c.name) c)).getD j default = d.getD j default from by simp only [List.getD, List.getElem?_set_ne (Ne.symm h)]]
            exact hd.2 j hj
  · rw [aD_err rfl he]; exact hd
theorem dbV.ok {d : DB} (h : dbV d) : dbOk d := ⟨by have := h.1; omega, fun j hj => ok_of_err (h.2 j hj)⟩
theorem dbV_nil : dbV [] := ⟨by simp, fun j hj => by simp at hj⟩
theorem repl_step {d : DB} {l : List Chg} {i : Nat} (hi : i < l.length) (h : appErr d (l.getD i default) = 0) : replE d (l.drop i) = replE (appD d (l.getD i default)) (l.drop (i + 1)) ∧ replD d (l.drop i) = replD (appD d (l.getD i default)) (l.drop (i + 1)) := by
  rw [List.drop_eq_getElem_cons hi]
  rw [getD_lt _ _ hi] at h ⊢
  simp only [replE, replD, h]
  simp
theorem repl_stop {d : DB} {l : List Chg} {i : Nat} (hi : i < l.length) (h : ¬ appErr d (l.getD i default) = 0) : replE d (l.drop i) = appErr d (l.getD i default) ∧ replD d (l.drop i) = [] := by
  rw [List.drop_eq_getElem_cons hi]
  rw [getD_lt _ _ hi] at h ⊢
  simp [replE, replD, h]
theorem repl_V : ∀ {l : List Chg} {d : DB}, dbV d → dbV (replD d l)
  | [], d, h => h
  | c :: l, d, h => by
    simp only [replD]
    split
    · exact dbV_nil
    · exact repl_V (app_V h)
theorem let8 {n : Nat} (hn : n ≤ 8) {f : Nat → Nat → PV} : CoP (.sl (0 + n) 1 false (appF 0 f (fun i j => [PV.raw (.string ⟨#[97]⟩), .raw (.string ⟨#[98]⟩), .raw (.string ⟨#[99]⟩), .raw (.string ⟨#[100]⟩), .raw (.string ⟨#[101]⟩), .raw (.string ⟨#[102]⟩), .raw (.string ⟨#[103]⟩), .raw (.string ⟨#[104]⟩)].getD (i * 1 + j) .any))) (strs (letters8.take n)) := by
  refine CoP.sl (by simp [letters8]; omega) (.inl rfl) (fun h => h) fun i j hi hj => CoP.of_eq ?_
  obtain rfl : j = 0 := by omega
  have hi8 : i < n := by omega
  simp only [appF, Nat.not_lt_zero, if_false, Nat.sub_zero, Nat.mul_one, Nat.add_zero, lf, List.getD, List.getElem?_take, hi8, if_true]
  have : i < 8 := by omega
  match i, this with
  | 0, _ => rfl
  | 1, _ => rfl
  | 2, _ => rfl
  | 3, _ => rfl
  | 4, _ => rfl
  | 5, _ => rfl
  | 6, _ => rfl
  | 7, _ => rfl
theorem gd_none {α : Type} [Inhabited α] {l : List α} {k : Nat} (h : l.length ≤ k) : l.getD k default = default := by simp [List.getD, h]
theorem gap_le {g : UInt8} {i : Nat} : 0 ≤ (i : Int) * (1 + (g.toNat : Int) % 3) ∧ (i : Int) * (1 + (g.toNat : Int) % 3) ≤ 3 * i := by
  have h : (g.toNat : Int) % 3 = 0 ∨ (g.toNat : Int) % 3 = 1 ∨ (g.toNat : Int) % 3 = 2 := by omega
  rcases h with h | h | h <;> rw [h] <;> omega
theorem wv_len {l : List UInt8} {n : Nat} : (wideVals l n).length = n := by simp [wideVals]
theorem wr_len {x : Rcp} {n : Nat} : (wideRows x n).length = x.rows.length := by simp [wideRows]
theorem wv_get {l : List UInt8} {n k j : Nat} (h : k < n) : lf Val.c (wideVals l n) k j = Val.c (ofV (l.getD k default)) j := by
  unfold lf wideVals
  rw [getD_rmap _ _ _ h]
theorem wr_get {x : Rcp} {n i j : Nat} (h : i < x.rows.length) : lf Row.c (wideRows x n) i j = Row.c ⟨1 + (i : Int) * (1 + (x.gap.toNat : Int) % 3), wideVals (x.rows.getD i default) n⟩ j := by
  unfold lf wideRows
  rw [getD_rmap _ _ _ h]
def jr (s : Stt) : List Chg := s.done.flatten ++ s.now
def dbOf (s : Stt) : DB := replD [] (jr s)
def chOp (s : Stt) (x : Opn) : Chg :=
  let k := x.kind.toNat % 9
  if k = 0 then { (default : Chg) with kind := 1, name := nmOf x, table := tblOf x }
  else if tblIx (dbOf s) (nmOf x) < 0 then default
  else
    let t := tblAt (dbOf s) (nmOf x)
    if k = 1 then { (default : Chg) with kind := 2, name := t.name, row := rowOf x }
    else if ¬ 0 ≤ rowIx t.rows x.id then default
    else if k = 2 then { (default : Chg) with kind := 3, name := t.name, row := t.rows.getD (max (rowIx t.rows x.id) 0).toNat default }
    else { (default : Chg) with kind := 4, name := t.name, row := t.rows.getD (max (rowIx t.rows x.id) 0).toNat default, attr := x.attr, value := ofV x.value }
def chOpE (s : Stt) (x : Opn) : Int :=
  let k := x.kind.toNat % 9
  if k = 0 then crErr (dbOf s) (tblOf x)
  else if tblIx (dbOf s) (nmOf x) < 0 then 4
  else
    let t := tblAt (dbOf s) (nmOf x)
    if k = 1 then insErr t (rowOf x)
    else if ¬ 0 ≤ rowIx t.rows x.id then 4
    else if k = 2 then 0
    else chErr t x.id x.attr (ofV x.value)
structure StOk (s : Stt) : Prop where
  ld : s.done.flatten.length ≤ 68719476736
  ln : s.now.length ≤ 68719476736
  lt : s.done.length ≤ 68719476736
  lu : s.undone.length ≤ 68719476736
  ok : chgsOk (jr s)
structure OpOk (x : Opn) : Prop where
  lv : x.vals.length ≤ 68719476736
  lr : x.t.rows.length ≤ 68719476736
theorem StOk.V {s : Stt} (_ : StOk s) : dbV (dbOf s) := repl_V dbV_nil
theorem chOp0 {s : Stt} {x : Opn} (h : x.kind.toNat % 9 = 0) : chOp s x = { (default : Chg) with kind := 1, name := nmOf x, table := tblOf x } ∧ chOpE s x = crErr (dbOf s) (tblOf x) := by simp [chOp, chOpE, h]
theorem chOpn {s : Stt} {x : Opn} (h : ¬ x.kind.toNat % 9 = 0) (h2 : tblIx (dbOf s) (nmOf x) < 0) : chOp s x = default ∧ chOpE s x = 4 := by simp [chOp, chOpE, h, h2]
theorem chOp1 {s : Stt} {x : Opn} (h : x.kind.toNat % 9 = 1) (h2 : ¬ tblIx (dbOf s) (nmOf x) < 0) : chOp s x = { (default : Chg) with kind := 2, name := (tblAt (dbOf s) (nmOf x)).name, row := rowOf x } ∧ chOpE s x = insErr (tblAt (dbOf s) (nmOf x)) (rowOf x) := by simp [chOp, chOpE, h, h2]
theorem chOpf {s : Stt} {x : Opn} (h : ¬ x.kind.toNat % 9 = 0) (h1 : ¬ x.kind.toNat % 9 = 1) (h2 : ¬ tblIx (dbOf s) (nmOf x) < 0) (h3 : ¬ 0 ≤ rowIx (tblAt (dbOf s) (nmOf x)).rows x.id) : chOp s x = default ∧ chOpE s x = 4 := by simp [chOp, chOpE, h, h1, h2, h3]
theorem chOp2 {s : Stt} {x : Opn} (h : x.kind.toNat % 9 = 2) (h2 : ¬ tblIx (dbOf s) (nmOf x) < 0) (h3 : 0 ≤ rowIx (tblAt (dbOf s) (nmOf x)).rows x.id) : chOp s x = { (default : Chg) with kind := 3, name := (tblAt (dbOf s) (nmOf x)).name, row := (tblAt (dbOf s) (nmOf x)).rows.getD (max (rowIx (tblAt (dbOf s) (nmOf x)).rows x.id) 0).toNat default } ∧ chOpE s x = 0 := by simp [chOp, chOpE, h, h2, h3]
theorem chOp3 {s : Stt} {x : Opn} (h : ¬ x.kind.toNat % 9 = 0) (h1 : ¬ x.kind.toNat % 9 = 1) (h' : ¬ x.kind.toNat % 9 = 2) (h2 : ¬ tblIx (dbOf s) (nmOf x) < 0) (h3 : 0 ≤ rowIx (tblAt (dbOf s) (nmOf x)).rows x.id) :
    chOp s x = { (default : Chg) with kind := 4, name := (tblAt (dbOf s) (nmOf x)).name, row := (tblAt (dbOf s) (nmOf x)).rows.getD (max (rowIx (tblAt (dbOf s) (nmOf x)).rows x.id) 0).toNat default, attr := x.attr, value := ofV x.value } ∧ chOpE s x = chErr (tblAt (dbOf s) (nmOf x)) x.id x.attr (ofV x.value) := by simp [chOp, chOpE, h, h1, h', h2, h3]
end Go.Hx
end
section
namespace Go.Hx
open Go.Proofs
set_option maxRecDepth 100000
theorem good15 : goodFn Tryz.prog 15 := ⟨Tryz.f15, Tryz.func15, by kernel_rfl, by kernel_rfl⟩
theorem c15 (l : List Chg) (h : chgsOk l) : HPure Tryz.prog 15 [pP (chgs l)] (prOf [dbpc (replD [] l), pI (replE [] l)]) := by
  refine hpure_of (nt := 29) Tryzok Tryz.func15 rfl rfl (Nat.le_of_ble_eq_true rfl) ?_; refine hw_bt 0 rfl (fun hn => ?_); refine hw_seq ?_; refine hw_region (E := TryzE) Tryzok ?_; refine rm 0 rfl rfl rfl rfl rfl rfl ?_
  refine rq rfl rfl rfl rfl rfl ?_; refine rg_nil ?_; show HW _ _ _ _ _; refine hw_seq ?_; refine hw_region (E := TryzE) Tryzok ?_; refine rm 1 rfl rfl rfl rfl rfl rfl ?_; refine rg_nil ?_; show HW _ _ _ _ _
  (iterate 2 refine hw_seq ?_); refine hw_region (E := TryzE) Tryzok ?_; refine rq rfl rfl rfl rfl rfl ?_; refine rg_nil ?_; show HW _ _ _ _ _; refine hw_block ?_
  refine hw_loopK (ι := (Nat × DB)) ⟨[(0, some _), (2, some _), (4, some _)], [(0, some _)]⟩ ⟨⟨⟨_, rfl, CoR.refl _⟩, ⟨_, rfl, CoR.refl _⟩, ⟨_, rfl, CoR.refl _⟩, trivial⟩, ⟨⟨_, rfl, CoO.refl _⟩, trivial⟩⟩ (fun x => ⟨[(5, some (vI x.1))], [(1, some (.box [.p (tbls x.2)]))]⟩) (fun x => x.1 ≤ l.length ∧ dbV x.2 ∧ replE x.2 (l.drop x.1) = replE [] l ∧ replD x.2 (l.drop x.1) = replD [] l) (fun x => l.length - x.1) ((0, [])) (⟨Nat.zero_le _, dbV_nil, rfl, rfl⟩) ⟨⟨⟨_, rfl, (by first | exact CoR.refl _ | exact coi (by omega) | exact cob (by simp_all))⟩, trivial⟩, ⟨⟨_, rfl, ⟨co_nil, trivial⟩⟩, trivial⟩⟩ ?_
  rintro ⟨i, d⟩ ⟨hi, hd, hE, hD⟩
  dsimp only at hi hE hD ⊢
  (iterate 2 refine hw_seq ?_); refine hw_region (E := TryzE) Tryzok ?_; (iterate 4 refine rq rfl rfl rfl rfl rfl ?_); refine rg_nil ?_; show HW _ _ _ _ _; refine hw_cond _ rfl (fun r0 => ?_) (fun r0 => ?_)
  · skip
    have h0 := r0
    have h0 := of_decide_eq_true h0
    try simp only [Int.toNat_natCast] at h0
    refine hw_skip ?_; show HW _ _ _ _ _; refine hw_seq ?_; refine hw_block ?_; refine hw_seq ?_; refine hw_draw (E := TryzE) Tryzok Tryzmixed [0, 1, 2, 3, 4, 5, 6, 7, 8, 9, 10, 11] ?_; (iterate 5 refine rq rfl rfl rfl rfl rfl ?_)
    refine rc rfl rfl rfl rfl rfl rfl good46 (c46 d (l.getD i default) hd (h i (by omega))) (CoL.refl _) rfl rfl ?_; (iterate 3 refine rq rfl rfl rfl rfl rfl ?_); refine rm 2 rfl rfl rfl rfl rfl rfl ?_
    refine rs rfl rfl rfl rfl rfl ?_; refine rq rfl rfl rfl rfl rfl ?_; refine rg_nil ?_; refine ⟨by kernel_rfl, ?_⟩; show HW _ _ _ _ _; (iterate 2 refine hw_seq ?_); refine hw_region (E := TryzE) Tryzok ?_
    (iterate 2 refine rq rfl rfl rfl rfl rfl ?_); refine rg_nil ?_; show HW _ _ _ _ _; refine hw_cond _ rfl (fun r1 => ?_) (fun r1 => ?_)
    · skip
      have h1 := r1
      have h1 := of_decide_eq_false (not_t h1)
      try simp only [Int.toNat_natCast] at h1
      have hz : ¬ appErr d (l.getD i default) = 0 := h1
      refine hw_seq ?_; refine hw_region (E := TryzE) Tryzok ?_; (iterate 2 refine rq rfl rfl rfl rfl rfl ?_); refine rs rfl rfl rfl rfl rfl ?_; refine rq rfl rfl rfl rfl rfl ?_; refine rg_nil ?_; show HW _ _ _ _ _; refine hw_ret ?_
      refine ⟨.inr rfl, ?_⟩
      obtain ⟨g1, g2⟩ := repl_stop (d := d) (by omega) hz
      rw [← hD, ← hE, g1, g2]
      exact ⟨_, _, _, _, rfl, (by (repeat' apply And.intro) <;> first | trivial | exact Nat.le_of_ble_eq_true rfl | rfl), rfl, (by (repeat' apply And.intro) <;> first | trivial | exact Nat.le_of_ble_eq_true rfl | rfl), ⟨CoC.agg ⟨co_nil, trivial⟩, CoC.refl _, trivial⟩⟩
    · skip
      have h1 := r1
      have h1 := of_decide_eq_true (not_f h1)
      try simp only [Int.toNat_natCast] at h1
      have hz : appErr d (l.getD i default) = 0 := h1
      refine hw_skip ?_; show HW _ _ _ _ _; refine hw_region (E := TryzE) Tryzok ?_; refine rq rfl rfl rfl rfl rfl ?_; refine rs rfl rfl rfl rfl rfl ?_; refine rg_nil ?_; show HW _ _ _ _ _; refine hw_region (E := TryzE) Tryzok ?_
      (iterate 3 refine rq rfl rfl rfl rfl rfl ?_); refine rg_nil ?_; refine ⟨(i + 1, appD d (l.getD i default)), ?_, ?_, ?_⟩
      · obtain ⟨g1, g2⟩ := repl_step (by omega) hz
        exact ⟨by dsimp only; omega, app_V hd, g1 ▸ hE, g2 ▸ hD⟩
      · first | omega | (dsimp only; omega)
      · exact ⟨⟨⟨_, rfl, (by first | exact CoR.refl _ | exact coi (by omega) | exact cob (by simp_all))⟩, ⟨_, rfl, CoR.refl _⟩, ⟨_, rfl, CoR.refl _⟩, ⟨_, rfl, CoR.refl _⟩, trivial⟩, ⟨⟨_, rfl, CoO.refl _⟩, ⟨_, rfl, CoO.refl _⟩, trivial⟩⟩
  · skip
    have h0 := r0
    have h0 := of_decide_eq_false h0
    try simp only [Int.toNat_natCast] at h0
    obtain rfl : i = l.length := by omega
    rw [List.drop_length] at hE hD
    refine hw_exit ?_; show HW _ _ _ _ _; refine hw_seq ?_; refine hw_region (E := TryzE) Tryzok ?_; refine rq rfl rfl rfl rfl rfl ?_; refine rs rfl rfl rfl rfl rfl ?_; refine rq rfl rfl rfl rfl rfl ?_; refine rg_nil ?_
    show HW _ _ _ _ _; refine hw_ret ?_; refine ⟨.inr rfl, ?_⟩
    rw [← hD, ← hE]
    exact ⟨_, _, _, _, rfl, (by (repeat' apply And.intro) <;> first | trivial | exact Nat.le_of_ble_eq_true rfl | rfl), rfl, (by (repeat' apply And.intro) <;> first | trivial | exact Nat.le_of_ble_eq_true rfl | rfl), CoL.refl _⟩
theorem good50 : goodFn Tryz.prog 50 := ⟨Tryz.f50, Tryz.func50, by kernel_rfl, by kernel_rfl⟩
theorem c50 (s : Stt) (h : s.done.flatten.length ≤ 68719476736) (h2 : s.now.length ≤ 68719476736) (hok : chgsOk (jr s)) : HPure Tryz.prog 50 [s.pc] (prOf [dbpc (dbOf s)]) := by
  refine hpure_of (nt := 15) Tryzok Tryz.func50 rfl rfl (Nat.le_of_ble_eq_true rfl) ?_; refine hw_seq ?_; refine hw_region (E := TryzE) Tryzok ?_; refine rm 0 rfl rfl rfl rfl rfl rfl ?_; refine rm 1 rfl rfl rfl rfl rfl rfl ?_
  refine rg_nil ?_; show HW _ _ _ _ _; refine hw_seq ?_; refine hw_draw (E := TryzE) Tryzok Tryzmixed [0, 1, 2, 3, 4, 5, 6, 7, 8, 9, 10, 11] ?_; refine rq rfl rfl rfl rfl rfl ?_
  refine rg_fcall rfl rfl rfl rfl rfl rfl good12 ((c12h s h).swap 9 100) (CoHCL.refl _) trivial rfl rfl ?_; (iterate 2 refine rq rfl rfl rfl rfl rfl ?_); refine ra 2 true rfl rfl rfl rfl rfl rfl ?_
  refine rg_fcall rfl rfl rfl rfl rfl rfl good15 (HPure.eat (hcs := [.one (.ref 100 (jr s).length)]) (o1 := [(100, .arr true 11 49 (jr s).length (lf Chg.c (jr s)))]) (c15 (jr s) hok) rfl (by (repeat' apply And.intro) <;> first | trivial | rfl) (CoL.refl _)) (⟨congrArg (HV.ref 100) (by simp [jr]), trivial⟩) ⟨⟨_, rfl, co_app _ (fun h => h) rfl (fun i j hi hj => CoP.refl _)⟩, trivial⟩ rfl rfl ?_
  (iterate 3 refine rq rfl rfl rfl rfl rfl ?_); refine rm 3 rfl rfl rfl rfl rfl rfl ?_; refine rs rfl rfl rfl rfl rfl ?_; refine rq rfl rfl rfl rfl rfl ?_; refine rg_nil ?_; refine ⟨by kernel_rfl, ?_⟩; show HW _ _ _ _ _
  refine hw_seq ?_; refine hw_region (E := TryzE) Tryzok ?_; refine rq rfl rfl rfl rfl rfl ?_; refine rs rfl rfl rfl rfl rfl ?_; refine rg_nil ?_; show HW _ _ _ _ _; refine hw_ret ?_; refine ⟨.inr rfl, ?_⟩
  exact ⟨_, _, _, _, rfl, (by (repeat' apply And.intro) <;> first | trivial | exact Nat.le_of_ble_eq_true rfl | rfl), rfl, (by (repeat' apply And.intro) <;> first | trivial | exact Nat.le_of_ble_eq_true rfl | rfl), CoL.refl _⟩
theorem good26 : goodFn Tryz.prog 26 := ⟨Tryz.f26, Tryz.func26, by kernel_rfl, by kernel_rfl⟩
theorem c26 (a b : List Chg) (ha : chgsOk a) (hb : chgsOk b) : HPure Tryz.prog 26 [pP (chgs a), pP (chgs b)] (prOf [pB (decide (a = b))]) := by
  refine hpure_of (nt := 69) Tryzok Tryz.func26 rfl rfl (Nat.le_of_ble_eq_true rfl) ?_; refine hw_bt 0 rfl (fun hn => ?_); refine hw_seq ?_; refine hw_region (E := TryzE) Tryzok ?_; refine rq rfl rfl rfl rfl rfl ?_; refine rg_nil ?_
  show HW _ _ _ _ _; (iterate 2 refine hw_seq ?_); refine hw_region (E := TryzE) Tryzok ?_; (iterate 5 refine rq rfl rfl rfl rfl rfl ?_); refine rg_nil ?_; show HW _ _ _ _ _; refine hw_cond _ rfl (fun r0 => ?_) (fun r0 => ?_)
  · skip
    have h0 := r0
    have h0 := of_decide_eq_false (not_t h0)
    try simp only [Int.toNat_natCast] at h0
    refine hw_seq ?_; refine hw_region (E := TryzE) Tryzok ?_; refine rq rfl rfl rfl rfl rfl ?_; refine rg_nil ?_; show HW _ _ _ _ _; refine hw_ret ?_; refine ⟨.inr rfl, ?_⟩
    exact ⟨_, _, _, _, rfl, (by (repeat' apply And.intro) <;> first | trivial | exact Nat.le_of_ble_eq_true rfl | rfl), rfl, (by (repeat' apply And.intro) <;> first | trivial | exact Nat.le_of_ble_eq_true rfl | rfl), ⟨ccb (decide_eq_false (fun e => h0 (by rw [e]))).symm, trivial⟩⟩
  · skip
    have h0 := r0
    have h0 := of_decide_eq_true (not_f h0)
    try simp only [Int.toNat_natCast] at h0
    refine hw_skip ?_; show HW _ _ _ _ _; refine hw_joinK (ι := Unit) ⟨[], []⟩ ⟨trivial, trivial⟩ (fun _i => ⟨[], []⟩) (fun _i => a = b) ?_ ?_
    · skip
      refine hw_seq ?_; refine hw_region (E := TryzE) Tryzok ?_; refine rq rfl rfl rfl rfl rfl ?_; refine rg_nil ?_; show HW _ _ _ _ _; refine hw_block ?_
      refine hw_loopK (ι := Nat) ⟨[(0, some _), (1, some _)], []⟩ ⟨⟨⟨_, rfl, CoR.refl _⟩, ⟨_, rfl, CoR.refl _⟩, trivial⟩, trivial⟩ (fun i => ⟨[(5, some (vI i))], []⟩) (fun i => i ≤ a.length ∧ ∀ j, j < i → a.getD j default = b.getD j default) (fun i => a.length - i) (0) (⟨Nat.zero_le _, all_zero⟩) ⟨⟨⟨_, rfl, (by first | exact CoR.refl _ | exact coi (by omega) | exact cob (by simp_all))⟩, trivial⟩, trivial⟩ ?_
      rintro i ⟨hi, hI⟩
      (iterate 2 refine hw_seq ?_); refine hw_region (E := TryzE) Tryzok ?_; (iterate 4 refine rq rfl rfl rfl rfl rfl ?_); refine rg_nil ?_; show HW _ _ _ _ _; refine hw_cond _ rfl (fun r1 => ?_) (fun r1 => ?_)
      · skip
        have h1 := r1
        have h1 := of_decide_eq_true h1
        try simp only [Int.toNat_natCast] at h1
        refine hw_skip ?_; show HW _ _ _ _ _; refine hw_seq ?_; refine hw_block ?_; refine hw_seq ?_; refine hw_draw (E := TryzE) Tryzok Tryzmixed [0, 1, 2, 3, 4, 5, 6, 7, 8, 9, 10, 11] ?_
        (iterate 8 refine rq rfl rfl rfl rfl rfl ?_); refine rm 0 rfl rfl rfl rfl rfl rfl ?_; refine rm 1 rfl rfl rfl rfl rfl rfl ?_; (iterate 2 refine rs rfl rfl rfl rfl rfl ?_); refine rg_nil ?_; refine ⟨by kernel_rfl, ?_⟩
        show HW _ _ _ _ _; refine hw_seq ?_; refine hw_region (E := TryzE) Tryzok ?_; (iterate 6 refine rq rfl rfl rfl rfl rfl ?_); refine rsplit rfl rfl (fun r2 => ?_) (fun r2 => ?_)
        · skip
          have h2 := r2
          have h2 := of_decide_eq_false (not_t h2)
          try simp only [Int.toNat_natCast] at h2
          (iterate 5 refine rk rfl rfl rfl (gtf r2) ?_); refine rq rfl rfl rfl rfl rfl ?_ (hp := r2); refine rq rfl rfl rfl rfl rfl ?_; (iterate 5 refine rk rfl rfl rfl rfl ?_); (iterate 2 refine rq rfl rfl rfl rfl rfl ?_)
          (iterate 5 refine rk rfl rfl rfl rfl ?_); (iterate 2 refine rq rfl rfl rfl rfl rfl ?_); (iterate 6 refine rk rfl rfl rfl rfl ?_); (iterate 2 refine rq rfl rfl rfl rfl rfl ?_); (iterate 6 refine rk rfl rfl rfl rfl ?_)
          refine rq rfl rfl rfl rfl rfl ?_; refine rg_nil ?_; show HW _ _ _ _ _; refine hw_cond _ rfl (fun _ => ?_) (fun e => by cases e); refine hw_seq ?_; refine hw_region (E := TryzE) Tryzok ?_; refine rq rfl rfl rfl rfl rfl ?_
          refine rg_nil ?_; show HW _ _ _ _ _; refine hw_ret ?_; refine ⟨.inr rfl, ?_⟩
          have hN : ¬ a.getD i default = b.getD i default := fun e => by rw [Chg.eq_iff] at e; simp_all
          exact ⟨_, _, _, _, rfl, (by (repeat' apply And.intro) <;> first | trivial | exact Nat.le_of_ble_eq_true rfl | rfl), rfl, (by (repeat' apply And.intro) <;> first | trivial | exact Nat.le_of_ble_eq_true rfl | rfl), ⟨ccb (decide_eq_false (fun e => hN (by subst e; rfl))).symm, trivial⟩⟩
        · skip
          have h2 := r2
          have h2 := of_decide_eq_true (not_f h2)
          try simp only [Int.toNat_natCast] at h2
          (iterate 5 refine rq rfl rfl rfl rfl (gff r2) ?_); (iterate 2 refine rq rfl rfl rfl rfl rfl ?_); refine rsplit rfl rfl (fun r3 => ?_) (fun r3 => ?_)
          · skip
            have h3 := r3
            have h3 := bif_f r2 h3
            have h3 := of_decide_eq_false (not_t h3)
            try simp only [Int.toNat_natCast] at h3
            (iterate 5 refine rk rfl rfl rfl (gtf r3) ?_); refine rq rfl rfl rfl rfl rfl ?_ (hp := r3); refine rq rfl rfl rfl rfl rfl ?_; (iterate 5 refine rk rfl rfl rfl rfl ?_); (iterate 2 refine rq rfl rfl rfl rfl rfl ?_)
            (iterate 6 refine rk rfl rfl rfl rfl ?_); (iterate 2 refine rq rfl rfl rfl rfl rfl ?_); (iterate 6 refine rk rfl rfl rfl rfl ?_); refine rq rfl rfl rfl rfl rfl ?_; refine rg_nil ?_; show HW _ _ _ _ _
            refine hw_cond _ rfl (fun _ => ?_) (fun e => by cases e); refine hw_seq ?_; refine hw_region (E := TryzE) Tryzok ?_; refine rq rfl rfl rfl rfl rfl ?_; refine rg_nil ?_; show HW _ _ _ _ _; refine hw_ret ?_
            refine ⟨.inr rfl, ?_⟩
            have hN : ¬ a.getD i default = b.getD i default := fun e => by rw [Chg.eq_iff] at e; simp_all
            exact ⟨_, _, _, _, rfl, (by (repeat' apply And.intro) <;> first | trivial | exact Nat.le_of_ble_eq_true rfl | rfl), rfl, (by (repeat' apply And.intro) <;> first | trivial | exact Nat.le_of_ble_eq_true rfl | rfl), ⟨ccb (decide_eq_false (fun e => hN (by subst e; rfl))).symm, trivial⟩⟩
          · skip
            have h3 := r3
            have h3 := bif_f r2 h3
            have h3 := of_decide_eq_true (not_f h3)
            try simp only [Int.toNat_natCast] at h3
            (iterate 5 refine rq rfl rfl rfl rfl (gff r3) ?_); (iterate 2 refine rq rfl rfl rfl rfl rfl ?_); refine rsplit rfl rfl (fun r4 => ?_) (fun r4 => ?_)
            · skip
              have h4 := r4
              have h4 := bif_f r3 h4
              have h4 := of_decide_eq_false (not_t h4)
              try simp only [Int.toNat_natCast] at h4
              (iterate 5 refine rk rfl rfl rfl (gtf r4) ?_); refine rq rfl rfl rfl rfl rfl ?_ (hp := r4); refine rq rfl rfl rfl rfl rfl ?_; (iterate 6 refine rk rfl rfl rfl rfl ?_); (iterate 2 refine rq rfl rfl rfl rfl rfl ?_)
              (iterate 6 refine rk rfl rfl rfl rfl ?_); refine rq rfl rfl rfl rfl rfl ?_; refine rg_nil ?_; show HW _ _ _ _ _; refine hw_cond _ rfl (fun _ => ?_) (fun e => by cases e); refine hw_seq ?_
              refine hw_region (E := TryzE) Tryzok ?_; refine rq rfl rfl rfl rfl rfl ?_; refine rg_nil ?_; show HW _ _ _ _ _; refine hw_ret ?_; refine ⟨.inr rfl, ?_⟩
              have hN : ¬ a.getD i default = b.getD i default := fun e => by rw [Chg.eq_iff] at e; simp_all
              exact ⟨_, _, _, _, rfl, (by (repeat' apply And.intro) <;> first | trivial | exact Nat.le_of_ble_eq_true rfl | rfl), rfl, (by (repeat' apply And.intro) <;> first | trivial | exact Nat.le_of_ble_eq_true rfl | rfl), ⟨ccb (decide_eq_false (fun e => hN (by subst e; rfl))).symm, trivial⟩⟩
            · skip
              have h4 := r4
              have h4 := bif_f r3 h4
              have h4 := of_decide_eq_true (not_f h4)
              try simp only [Int.toNat_natCast] at h4
              (iterate 5 refine rq rfl rfl rfl rfl (gff r4) ?_); (iterate 2 refine rq rfl rfl rfl rfl rfl ?_); refine rsplit rfl rfl (fun r5 => ?_) (fun r5 => ?_)
              · skip
                have h5 := r5
                have h5 := bif_f r4 h5
                (iterate 6 refine rk rfl rfl rfl (gtf r5) ?_); refine rq rfl rfl rfl rfl rfl ?_ (hp := r5); refine rq rfl rfl rfl rfl rfl ?_; (iterate 6 refine rk rfl rfl rfl rfl ?_); refine rq rfl rfl rfl rfl rfl ?_
                refine rg_nil ?_; show HW _ _ _ _ _; refine hw_cond _ rfl (fun _ => ?_) (fun e => by cases e); refine hw_seq ?_; refine hw_region (E := TryzE) Tryzok ?_; refine rq rfl rfl rfl rfl rfl ?_; refine rg_nil ?_
                show HW _ _ _ _ _; refine hw_ret ?_; refine ⟨.inr rfl, ?_⟩
                have hN : ¬ a.getD i default = b.getD i default := fun e => by rw [Chg.eq_iff] at e; simp_all
                exact ⟨_, _, _, _, rfl, (by (repeat' apply And.intro) <;> first | trivial | exact Nat.le_of_ble_eq_true rfl | rfl), rfl, (by (repeat' apply And.intro) <;> first | trivial | exact Nat.le_of_ble_eq_true rfl | rfl), ⟨ccb (decide_eq_false (fun e => hN (by subst e; rfl))).symm, trivial⟩⟩
              · skip
                have h5 := r5
                have h5 := bif_f r4 h5
                (iterate 4 refine rq rfl rfl rfl rfl (gff r5) ?_); refine rc rfl rfl rfl rfl rfl rfl good47 (c47 (a.getD i default).table (b.getD i default).table (ha i (by omega)).1 (hb i (by omega)).1) (CoL.refl _) rfl (gff r5) ?_
                refine rq rfl rfl rfl rfl (gff r5) ?_; (iterate 2 refine rq rfl rfl rfl rfl rfl ?_); refine rsplit rfl rfl (fun r6 => ?_) (fun r6 => ?_)
                · skip
                  have h6 := r6
                  have h6 := bif_f r5 h6
                  have h6 := not_t h6
                  (iterate 6 refine rk rfl rfl rfl (gtf r6) ?_); refine rq rfl rfl rfl rfl rfl ?_ (hp := r6); refine rg_nil ?_; show HW _ _ _ _ _; refine hw_cond _ rfl (fun _ => ?_) (fun e => by cases e); refine hw_seq ?_
                  refine hw_region (E := TryzE) Tryzok ?_; refine rq rfl rfl rfl rfl rfl ?_; refine rg_nil ?_; show HW _ _ _ _ _; refine hw_ret ?_; refine ⟨.inr rfl, ?_⟩
                  have hN : ¬ a.getD i default = b.getD i default := fun e => by rw [Chg.eq_iff] at e; simp_all
                  exact ⟨_, _, _, _, rfl, (by (repeat' apply And.intro) <;> first | trivial | exact Nat.le_of_ble_eq_true rfl | rfl), rfl, (by (repeat' apply And.intro) <;> first | trivial | exact Nat.le_of_ble_eq_true rfl | rfl), ⟨ccb (decide_eq_false (fun e => hN (by subst e; rfl))).symm, trivial⟩⟩
                · skip
                  have h6 := r6
                  have h6 := bif_f r5 h6
                  have h6 := not_f h6
                  (iterate 4 refine rq rfl rfl rfl rfl (gff r6) ?_)
                  refine rc rfl rfl rfl rfl rfl rfl good54 (c54 (a.getD i default).row (b.getD i default).row (ha i (by omega)).2.1 (hb i (by omega)).2.1) (CoL.refl _) rfl (gff r6) ?_; refine rq rfl rfl rfl rfl (gff r6) ?_
                  refine rq rfl rfl rfl rfl rfl ?_; refine rg_nil ?_; show HW _ _ _ _ _; refine hw_cond _ rfl (fun r7 => ?_) (fun r7 => ?_)
                  · skip
                    have h7 := r7
                    have h7 := bif_f r6 h7
                    have h7 := not_t h7
                    refine hw_seq ?_; refine hw_region (E := TryzE) Tryzok ?_; refine rq rfl rfl rfl rfl rfl ?_; refine rg_nil ?_; show HW _ _ _ _ _; refine hw_ret ?_; refine ⟨.inr rfl, ?_⟩
                    have hN : ¬ a.getD i default = b.getD i default := fun e => by rw [Chg.eq_iff] at e; simp_all
                    exact ⟨_, _, _, _, rfl, (by (repeat' apply And.intro) <;> first | trivial | exact Nat.le_of_ble_eq_true rfl | rfl), rfl, (by (repeat' apply And.intro) <;> first | trivial | exact Nat.le_of_ble_eq_true rfl | rfl), ⟨ccb (decide_eq_false (fun e => hN (by subst e; rfl))).symm, trivial⟩⟩
                  · skip
                    have h7 := r7
                    have h7 := bif_f r6 h7
                    have h7 := not_f h7
                    have hN : a.getD i default = b.getD i default := Chg.eq_iff.2 (by simp_all [Val.eq_iff, and_assoc])
                    refine hw_skip ?_; show HW _ _ _ _ _; refine hw_region (E := TryzE) Tryzok ?_; (iterate 3 refine rq rfl rfl rfl rfl rfl ?_); refine rg_nil ?_; refine ⟨i + 1, ?_, ?_, ?_⟩
                    · exact ⟨by omega, all_succ hI (hN)⟩
                    · first | omega | (dsimp only; omega)
                    · exact ⟨⟨⟨_, rfl, (by first | exact CoR.refl _ | exact coi (by omega) | exact cob (by simp_all))⟩, ⟨_, rfl, CoR.refl _⟩, ⟨_, rfl, CoR.refl _⟩, trivial⟩, trivial⟩
      · skip
        have h1 := r1
        have h1 := of_decide_eq_false h1
        try simp only [Int.toNat_natCast] at h1
        refine hw_exit ?_; refine ⟨(), ?_, ?_⟩
        · exact list_eq (by omega) fun j hj => hI j (by omega)
        · exact ⟨trivial, trivial⟩
    · rintro _ hj
      refine hw_seq ?_; refine hw_region (E := TryzE) Tryzok ?_; refine rq rfl rfl rfl rfl rfl ?_; refine rg_nil ?_; show HW _ _ _ _ _; refine hw_ret ?_; refine ⟨.inr rfl, ?_⟩
      exact ⟨_, _, _, _, rfl, (by (repeat' apply And.intro) <;> first | trivial | exact Nat.le_of_ble_eq_true rfl | rfl), rfl, (by (repeat' apply And.intro) <;> first | trivial | exact Nat.le_of_ble_eq_true rfl | rfl), ⟨ccb (decide_eq_true hj).symm, trivial⟩⟩
end Go.Hx
end
section
namespace Go.Hx
open Go.Proofs
set_option maxRecDepth 100000
theorem good36 : goodFn Tryz.prog 36 := ⟨Tryz.f36, Tryz.func36, by kernel_rfl, by kernel_rfl⟩
theorem c36 (x : Rcp) (n : Nat) (hn : n ≤ 8) (hx : x.rows.length ≤ 68719476736) : HPure Tryz.prog 36 [x.pc, pI n] (prOf [(wide x n).pc]) := by
  refine hpure_of (nt := 67) Tryzok Tryz.func36 rfl rfl (Nat.le_of_ble_eq_true rfl) ?_; refine hw_seq ?_; refine hw_region (E := TryzE) Tryzok ?_; refine rm 0 rfl rfl rfl rfl rfl rfl ?_; refine rm 1 rfl rfl rfl rfl rfl rfl ?_
  refine rg_nil ?_; show HW _ _ _ _ _; refine hw_seq ?_; refine hw_region (E := TryzE) Tryzok ?_; refine rm 2 rfl rfl rfl rfl rfl rfl ?_; refine rm 3 rfl rfl rfl rfl rfl rfl ?_; refine rq rfl rfl rfl rfl rfl ?_
  refine rcut rfl rfl rfl rfl rfl ?_; refine ra 4 true rfl rfl rfl rfl rfl rfl ?_; refine rq rfl rfl rfl rfl rfl ?_; refine rm 5 rfl rfl rfl rfl rfl rfl ?_; refine rs rfl rfl rfl rfl rfl ?_; refine rg_nil ?_
  refine hw_freeze_cell 5 1 rfl rfl rfl rfl rfl ?_; show HW _ _ _ _ _; (iterate 2 refine hw_seq ?_); refine hw_region (E := TryzE) Tryzok ?_; refine rq rfl rfl rfl rfl rfl ?_; refine rg_nil ?_; show HW _ _ _ _ _; refine hw_block ?_
  refine hw_adopt_cell 5 2 100 true 2 45 (lf Row.c (wideRows x n)) (by decide) rfl rfl (CoP.sl rfl (.inr rfl) (fun h => h) (fun i j hi _ => absurd hi (Nat.not_lt_zero i))) (.inr rfl) rfl rfl ?_
  refine hw_loopK (ι := Nat) ⟨[(1, some _), (2, some _), (4, some _), (5, some _)], [(0, some _), (1, some _)]⟩ ⟨⟨⟨_, rfl, CoR.refl _⟩, ⟨_, rfl, CoR.refl _⟩, ⟨_, rfl, CoR.refl _⟩, ⟨_, rfl, CoR.refl _⟩, trivial⟩, ⟨⟨_, rfl, CoO.refl _⟩, ⟨_, rfl, CoO.refl _⟩, trivial⟩⟩ (fun i => ⟨[(6, some (vI i))], [(5, some (.box [.p (.raw (.string ⟨#[114]⟩)), .p (strs (letters8.take n)), .ref 100 i])), (100, some (.arr true 2 45 i (lf Row.c (wideRows x n))))]⟩) (fun i => i ≤ x.rows.length) (fun i => x.rows.length - i) (0) (Nat.zero_le _) ⟨⟨⟨_, rfl, (by first | exact CoR.refl _ | exact coi (by omega) | exact cob (by simp_all))⟩, trivial⟩, ⟨⟨_, rfl, ⟨CoH.refl _, let8 hn, CoH.refl _, trivial⟩⟩, ⟨_, rfl, CoO.refl _⟩, trivial⟩⟩ ?_
  rintro i hi
  (iterate 2 refine hw_seq ?_); refine hw_region (E := TryzE) Tryzok ?_; (iterate 5 refine rq rfl rfl rfl rfl rfl ?_); refine rg_nil ?_; show HW _ _ _ _ _; refine hw_cond _ rfl (fun r0 => ?_) (fun r0 => ?_)
  · skip
    have h0 := r0
    have h0 := of_decide_eq_true h0
    try simp only [Int.toNat_natCast] at h0
    refine hw_skip ?_; show HW _ _ _ _ _; refine hw_seq ?_; refine hw_block ?_; refine hw_seq ?_
    have hgl := gap_le (g := x.gap) (i := i)
    refine hw_region (E := TryzE) Tryzok ?_; (iterate 9 refine rq rfl rfl rfl rfl rfl ?_); refine rm 6 rfl rfl rfl rfl rfl rfl ?_; refine rs rfl rfl rfl rfl rfl ?_; refine rg_nil ?_; show HW _ _ _ _ _; (iterate 2 refine hw_seq ?_)
    refine hw_region (E := TryzE) Tryzok ?_; refine rq rfl rfl rfl rfl rfl ?_; refine rg_nil ?_; show HW _ _ _ _ _; refine hw_block ?_
    refine hw_adopt_cell 6 1 101 true 3 47 (lf Val.c (wideVals (x.rows.getD i default) n)) (by decide) rfl rfl (CoP.sl rfl (.inr rfl) (fun h => h) (fun i j hi _ => absurd hi (Nat.not_lt_zero i))) (.inr rfl) rfl rfl ?_
    refine hw_loopK (ι := Nat) ⟨[(1, some _), (2, some _), (4, some _), (5, some _), (6, some _), (7, some _)], [(5, some _), (100, some _), (0, some _), (1, some _)]⟩ ⟨⟨⟨_, rfl, CoR.refl _⟩, ⟨_, rfl, CoR.refl _⟩, ⟨_, rfl, CoR.refl _⟩, ⟨_, rfl, CoR.refl _⟩, ⟨_, rfl, CoR.refl _⟩, ⟨_, rfl, CoR.refl _⟩, trivial⟩, ⟨⟨_, rfl, CoO.refl _⟩, ⟨_, rfl, CoO.refl _⟩, ⟨_, rfl, CoO.refl _⟩, ⟨_, rfl, CoO.refl _⟩, trivial⟩⟩ (fun k => ⟨[(8, some (vI k))], [(6, some (.box [.p (.raw (.int .i64 (1 + (i : Int) * (1 + (x.gap.toNat : Int) % 3)))), .ref 101 k])), (101, some (.arr true 3 47 k (lf Val.c (wideVals (x.rows.getD i default) n))))]⟩) (fun k => k ≤ n) (fun k => n - k) (0) (Nat.zero_le _) ⟨⟨⟨_, rfl, (by first | exact CoR.refl _ | exact coi (by omega) | exact cob (by simp_all))⟩, trivial⟩, ⟨⟨_, rfl, CoO.refl _⟩, ⟨_, rfl, CoO.refl _⟩, trivial⟩⟩ ?_
    rintro k hk
    (iterate 2 refine hw_seq ?_); refine hw_region (E := TryzE) Tryzok ?_; (iterate 3 refine rq rfl rfl rfl rfl rfl ?_); refine rg_nil ?_; show HW _ _ _ _ _; refine hw_cond _ rfl (fun r1 => ?_) (fun r1 => ?_)
    · skip
      have h1 := r1
      have h1 := of_decide_eq_true h1
      try simp only [Int.toNat_natCast] at h1
      refine hw_skip ?_; show HW _ _ _ _ _; refine hw_seq ?_; refine hw_block ?_; refine hw_seq ?_; refine hw_region (E := TryzE) Tryzok ?_; refine rq rfl rfl rfl rfl rfl ?_; refine rg_nil ?_; show HW _ _ _ _ _
      (iterate 2 refine hw_seq ?_); refine hw_bo 0 2 rfl rfl (fun hb => ?_); refine hw_region (E := TryzE) Tryzok ?_; (iterate 8 refine rq rfl rfl rfl rfl rfl ?_); refine rg_nil ?_; show HW _ _ _ _ _
      refine hw_cond _ rfl (fun r2 => ?_) (fun r2 => ?_)
      · skip
        have h2 := r2
        have h2 := of_decide_eq_true h2
        try simp only [Int.toNat_natCast] at h2
        refine hw_region (E := TryzE) Tryzok ?_; (iterate 9 refine rq rfl rfl rfl rfl rfl ?_); refine rg_nil ?_; show HW _ _ _ _ _; refine hw_draw (E := TryzE) Tryzok Tryzmixed [0, 1, 2, 3, 4, 5, 6, 7] ?_
        (iterate 3 refine rq rfl rfl rfl rfl rfl ?_); refine rc rfl rfl rfl rfl rfl rfl good49 (c49 _ (by omega)) (CoL.refl _) rfl rfl ?_; refine rm 7 rfl rfl rfl rfl rfl rfl ?_; refine ra 8 true rfl rfl rfl rfl rfl rfl ?_
        refine rq rfl rfl rfl rfl rfl ?_; refine rs rfl rfl rfl rfl rfl ?_; refine rg_nil ?_; refine ⟨by kernel_rfl, ?_⟩; show HW _ _ _ _ _; refine hw_region (E := TryzE) Tryzok ?_; (iterate 3 refine rq rfl rfl rfl rfl rfl ?_)
        refine rg_nil ?_; refine ⟨k + 1, ?_, ?_, ?_⟩
        · show k + 1 ≤ _
          omega
        · first | omega | (dsimp only; omega)
        · exact ⟨⟨⟨_, rfl, (by first | exact CoR.refl _ | exact coi (by omega) | exact cob (by simp_all))⟩, ⟨_, rfl, CoR.refl _⟩, ⟨_, rfl, CoR.refl _⟩, ⟨_, rfl, CoR.refl _⟩, ⟨_, rfl, CoR.refl _⟩, ⟨_, rfl, CoR.refl _⟩, ⟨_, rfl, CoR.refl _⟩, trivial⟩, ⟨⟨_, rfl, CoO.refl _⟩, ⟨_, rfl, (co_push (fun h => h) (by first | (intro j hj; rw [wv_get (by omega)]; revert j; exact lt3 (CoP.refl _) (CoP.refl _) (CoP.refl _)) | (intro j hj; rw [wv_get (by omega), gd_none (by omega)]; revert j; exact lt3 (CoP.refl _) (CoP.refl _) (CoP.refl _))))⟩, ⟨_, rfl, CoO.refl _⟩, ⟨_, rfl, CoO.refl _⟩, ⟨_, rfl, CoO.refl _⟩, ⟨_, rfl, CoO.refl _⟩, trivial⟩⟩
      · skip
        have h2 := r2
        have h2 := of_decide_eq_false h2
        try simp only [Int.toNat_natCast] at h2
        refine hw_skip ?_; show HW _ _ _ _ _; refine hw_draw (E := TryzE) Tryzok Tryzmixed [0, 1, 2, 3, 4, 5, 6, 7] ?_; (iterate 3 refine rq rfl rfl rfl rfl rfl ?_)
        refine rc rfl rfl rfl rfl rfl rfl good49 (c49 _ (by omega)) (CoL.refl _) rfl rfl ?_; refine rm 9 rfl rfl rfl rfl rfl rfl ?_; refine ra 10 true rfl rfl rfl rfl rfl rfl ?_; refine rq rfl rfl rfl rfl rfl ?_
        refine rs rfl rfl rfl rfl rfl ?_; refine rg_nil ?_; refine ⟨by kernel_rfl, ?_⟩; show HW _ _ _ _ _; refine hw_region (E := TryzE) Tryzok ?_; (iterate 3 refine rq rfl rfl rfl rfl rfl ?_); refine rg_nil ?_
        refine ⟨k + 1, ?_, ?_, ?_⟩
        · show k + 1 ≤ _
          omega
        · first | omega | (dsimp only; omega)
        · exact ⟨⟨⟨_, rfl, (by first | exact CoR.refl _ | exact coi (by omega) | exact cob (by simp_all))⟩, ⟨_, rfl, CoR.refl _⟩, ⟨_, rfl, CoR.refl _⟩, ⟨_, rfl, CoR.refl _⟩, ⟨_, rfl, CoR.refl _⟩, ⟨_, rfl, CoR.refl _⟩, ⟨_, rfl, CoR.refl _⟩, trivial⟩, ⟨⟨_, rfl, CoO.refl _⟩, ⟨_, rfl, (co_push (fun h => h) (by first | (intro j hj; rw [wv_get (by omega)]; revert j; exact lt3 (CoP.refl _) (CoP.refl _) (CoP.refl _)) | (intro j hj; rw [wv_get (by omega), gd_none (by omega)]; revert j; exact lt3 (CoP.refl _) (CoP.refl _) (CoP.refl _))))⟩, ⟨_, rfl, CoO.refl _⟩, ⟨_, rfl, CoO.refl _⟩, ⟨_, rfl, CoO.refl _⟩, ⟨_, rfl, CoO.refl _⟩, trivial⟩⟩
    · skip
      have h1 := r1
      have h1 := of_decide_eq_false h1
      try simp only [Int.toNat_natCast] at h1
      obtain rfl : k = n := by omega
      refine hw_exit ?_; show HW _ _ _ _ _; refine hw_freeze_cell 6 1 rfl rfl rfl rfl rfl ?_; refine hw_region (E := TryzE) Tryzok ?_; (iterate 3 refine rq rfl rfl rfl rfl rfl ?_); refine rm 11 rfl rfl rfl rfl rfl rfl ?_
      refine ra 12 true rfl rfl rfl rfl rfl rfl ?_; refine rq rfl rfl rfl rfl rfl ?_; refine rs rfl rfl rfl rfl rfl ?_; refine rg_nil ?_; show HW _ _ _ _ _; refine hw_region (E := TryzE) Tryzok ?_
      (iterate 3 refine rq rfl rfl rfl rfl rfl ?_); refine rg_nil ?_; refine ⟨i + 1, ?_, ?_, ?_⟩
      · show i + 1 ≤ _
        omega
      · first | omega | (dsimp only; omega)
      · exact ⟨⟨⟨_, rfl, (by first | exact CoR.refl _ | exact coi (by omega) | exact cob (by simp_all))⟩, ⟨_, rfl, CoR.refl _⟩, ⟨_, rfl, CoR.refl _⟩, ⟨_, rfl, CoR.refl _⟩, ⟨_, rfl, CoR.refl _⟩, trivial⟩, ⟨⟨_, rfl, CoO.refl _⟩, ⟨_, rfl, (co_push (fun h => h) (by intro j hj; rw [wr_get (by omega)]; revert j; exact lt2 (CoP.refl _) (CoP.sl wv_len (.inl rfl) (fun h => h) (fun _ _ _ _ => CoP.refl _))))⟩, ⟨_, rfl, CoO.refl _⟩, ⟨_, rfl, CoO.refl _⟩, trivial⟩⟩
  · skip
    have h0 := r0
    have h0 := of_decide_eq_false h0
    try simp only [Int.toNat_natCast] at h0
    obtain rfl : i = x.rows.length := by omega
    refine hw_exit ?_; show HW _ _ _ _ _; refine hw_seq ?_; refine hw_region (E := TryzE) Tryzok ?_; refine rq rfl rfl rfl rfl rfl ?_; refine rs rfl rfl rfl rfl rfl ?_; refine rg_nil ?_; show HW _ _ _ _ _; refine hw_ret ?_
    refine ⟨.inr rfl, ?_⟩
    exact ⟨_, _, _, _, rfl, (by (repeat' apply And.intro) <;> first | trivial | exact Nat.le_of_ble_eq_true rfl | rfl), rfl, (by (repeat' apply And.intro) <;> first | trivial | exact Nat.le_of_ble_eq_true rfl | rfl), ⟨CoC.agg ⟨CoP.refl _, CoP.refl _, CoP.sl wr_len (.inl rfl) (fun h => h) (fun _ _ _ _ => CoP.refl _), trivial⟩, trivial⟩⟩
theorem good30 : goodFn Tryz.prog 30 := ⟨Tryz.f30, Tryz.func30, by kernel_rfl, by kernel_rfl⟩
theorem c30 (x : Opn) (hx : x.t.rows.length ≤ 68719476736) : HPure Tryz.prog 30 [x.pc] (prOf [(tblOf x).pc]) := by
  refine hpure_of (nt := 16) Tryzok Tryz.func30 rfl rfl (Nat.le_of_ble_eq_true rfl) ?_; refine hw_seq ?_; refine hw_region (E := TryzE) Tryzok ?_; refine rm 0 rfl rfl rfl rfl rfl rfl ?_; refine rm 1 rfl rfl rfl rfl rfl rfl ?_
  refine rg_nil ?_; show HW _ _ _ _ _; refine hw_seq ?_; refine hw_region (E := TryzE) Tryzok ?_; (iterate 7 refine rq rfl rfl rfl rfl rfl ?_)
  refine rc rfl rfl rfl rfl rfl rfl good36 (c36 x.t (x.t.attrs.toNat % 4) (by omega) hx) (⟨CoC.refl _, cci (by omega), trivial⟩) rfl rfl ?_; refine rm 2 rfl rfl rfl rfl rfl rfl ?_; refine rs rfl rfl rfl rfl rfl ?_; refine rg_nil ?_
  show HW _ _ _ _ _; refine hw_seq ?_; refine hw_region (E := TryzE) Tryzok ?_; refine rq rfl rfl rfl rfl rfl ?_; refine rc rfl rfl rfl rfl rfl rfl good35 (c35 _) (CoL.refl _) rfl rfl ?_; refine rq rfl rfl rfl rfl rfl ?_
  refine rs rfl rfl rfl rfl rfl ?_; refine rg_nil ?_; show HW _ _ _ _ _; refine hw_seq ?_; refine hw_region (E := TryzE) Tryzok ?_; refine rq rfl rfl rfl rfl rfl ?_; refine rs rfl rfl rfl rfl rfl ?_; refine rg_nil ?_
  show HW _ _ _ _ _; refine hw_ret ?_; refine ⟨.inr rfl, ?_⟩
  exact ⟨_, _, _, _, rfl, (by (repeat' apply And.intro) <;> first | trivial | exact Nat.le_of_ble_eq_true rfl | rfl), rfl, (by (repeat' apply And.intro) <;> first | trivial | exact Nat.le_of_ble_eq_true rfl | rfl), CoL.refl _⟩
end Go.Hx
end
