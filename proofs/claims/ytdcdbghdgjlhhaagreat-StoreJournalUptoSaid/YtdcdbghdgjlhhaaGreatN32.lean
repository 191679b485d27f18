/- A part of the proof: lemmas for the theorem of this claim, merged by a program of ours out of Sp14, W36, Sp15, W37, Sp16, W32. -/
import Derived.Test.YtdcdbghdgjlhhaaGreatN23
import Derived.Test.YtdcdbghdgjlhhaaGreatN29
import Derived.Test.YtdcdbghdgjlhhaaGreatN31
set_option linter.all false
section
namespace Go.Hx
section
variable {n : Nat} {s : Stt} {o : Opn}
theorem str_db : (strOf s).db = dbOf s := rfl
theorem chSame_k {c : Chg} (h : ¬ c.kind = 4) : chSame c = false := by simp [chSame, h]
theorem sim_ch (h : Sim n s) {c : Chg} (h4 : ¬ o.kind.toNat % 9 = 4) (h5 : ¬ o.kind.toNat % 9 = 5) (h6 : ¬ o.kind.toNat % 9 = 6) (h7 : ¬ o.kind.toNat % 9 = 7) (h8 : ¬ o.kind.toNat % 9 = 8)
    (he : appErr (dbOf s) c = chOpE s o) (hc : chOpE s o = 0 → chOp s o = c ∧ chSame c = false ∧ c.ok) : appErr (dbOf s) c = doE s o ∧ pfS (strOf s) c = strOf (doS s o) ∧ Sim (n + 1) (doS s o) := by
  rw [doEc h4 h5 h6 h7 h8]
  refine ⟨he, ?_⟩
  by_cases h0 : chOpE s o = 0
  · obtain ⟨e1, e2, e3⟩ := hc h0
    rw [(docp h4 h5 h6 h7 h8 h0 (by rw [e1]; exact e2)).1, e1]
    exact put_sim h e3 (by rw [he]; exact h0)
  · rw [(doc h4 h5 h6 h7 h8 h0).1]
    exact ⟨put_err (by rw [str_db, he]; exact h0), h.mono (Nat.le_succ n)⟩
theorem sim0 (h : Sim n s) (ho : OpOk o) (hk : o.kind.toNat % 9 = 0) : dxE (strOf s) o = doE s o ∧ dxS (strOf s) o = strOf (doS s o) ∧ Sim (n + 1) (doS s o) := by
  have e1 : dxE (strOf s) o = appErr (dbOf s) (chg1 (tblOf o)) := by simp [dxE, hk, strOf]
  have e2 : dxS (strOf s) o = pfS (strOf s) (chg1 (tblOf o)) := by simp [dxS, hk]
  rw [e1, e2]
  obtain ⟨q1, q2⟩ := chOp0 (s := s) hk
  refine sim_ch h (by omega) (by omega) (by omega) (by omega) (by omega) ?_ (fun _ => ⟨?_, chSame_k (by show ¬ (1 : Int) = 4; omega), chg1_ok (tblOf_ok ho)⟩)
  · rw [q2, aE2 rfl rfl]; rfl
  · rw [q1]; rfl
theorem sim1 (h : Sim n s) (ho : OpOk o) (hk : o.kind.toNat % 9 = 1) : dxE (strOf s) o = doE s o ∧ dxS (strOf s) o = strOf (doS s o) ∧ Sim (n + 1) (doS s o) := by
  have e1 : dxE (strOf s) o = appErr (dbOf s) (chgR 2 (nmOf o) (rowOf o)) := by simp [dxE, hk, strOf]
  have e2 : dxS (strOf s) o = pfS (strOf s) (chgR 2 (nmOf o) (rowOf o)) := by simp [dxS, hk]
  rw [e1, e2]
  have hk2 : 2 ≤ (chgR 2 (nmOf o) (rowOf o)).kind ∧ (chgR 2 (nmOf o) (rowOf o)).kind ≤ 4 := by show (2 : Int) ≤ 2 ∧ (2 : Int) ≤ 4; omega
  by_cases hi : tblIx (dbOf s) (nmOf o) < 0
  · obtain ⟨q1, q2⟩ := chOpn (s := s) (x := o) (by omega) hi
    exact sim_ch h (by omega) (by omega) (by omega) (by omega) (by omega) (by rw [q2]; exact aE4 hk2 hi) (fun h0 => by omega)
  · obtain ⟨q1, q2⟩ := chOp1 (s := s) hk hi
    refine sim_ch h (by omega) (by omega) (by omega) (by omega) (by omega) ?_ (fun _ => ⟨?_, chSame_k (by show ¬ (2 : Int) = 4; omega), chgR_ok (rowOf_ok ho)⟩)
    · rw [q2, aE5 hk2 hi, cE2 rfl]; rfl
    · rw [q1, tbl_name hi]; rfl
theorem sim2 (h : Sim n s) (ho : OpOk o) (hk : o.kind.toNat % 9 = 2) : dxE (strOf s) o = doE s o ∧ dxS (strOf s) o = strOf (doS s o) ∧ Sim (n + 1) (doS s o) := by
  have e1 : dxE (strOf s) o = dlE (strOf s) (nmOf o) o.id := by simp [dxE, hk]
  have e2 : dxS (strOf s) o = dlS (strOf s) (nmOf o) o.id := by simp [dxS, hk]
  rw [e1, e2]
  have bad : chOpE s o = 4 → bfE (dbOf s) (nmOf o) o.id = 4 → dlE (strOf s) (nmOf o) o.id = doE s o ∧ dlS (strOf s) (nmOf o) o.id = strOf (doS s o) ∧ Sim (n + 1) (doS s o) := fun q b => by
    have hne : ¬ chOpE s o = 0 := by omega
    rw [(doc (by omega) (by omega) (by omega) (by omega) (by omega) hne).1, (doc (by omega) (by omega) (by omega) (by omega) (by omega) hne).2, q]
    exact ⟨by rw [dlE, if_pos (by rw [str_db, b]; omega), str_db, b], by rw [dlS, if_pos (by rw [str_db, b]; omega)], h.mono (Nat.le_succ n)⟩
  by_cases hi : tblIx (dbOf s) (nmOf o) < 0
  · exact bad (chOpn (s := s) (x := o) (by omega) hi).2 (bf4 (.inl hi)).1
  by_cases hr : 0 ≤ rowIx (tblAt (dbOf s) (nmOf o)).rows o.id
  · obtain ⟨b1, b2⟩ := bf0 hi hr
    obtain ⟨q1, q2⟩ := chOp2 (s := s) hk hi hr
    have hk3 : 2 ≤ (chgR 3 (nmOf o) (bfR (dbOf s) (nmOf o) o.id)).kind ∧ (chgR 3 (nmOf o) (bfR (dbOf s) (nmOf o) o.id)).kind ≤ 4 := by show (2 : Int) ≤ 3 ∧ (3 : Int) ≤ 4; omega
    rw [dlE, if_neg (by rw [str_db, b1]; omega), dlS, if_neg (by rw [str_db, b1]; omega), str_db]
    refine sim_ch h (by omega) (by omega) (by omega) (by omega) (by omega) ?_ (fun _ => ⟨?_, chSame_k (by show ¬ (3 : Int) = 4; omega), chgR_ok (bfR_ok h.dbV)⟩)
    · rw [q2, aE5 hk3 hi]
      show chgErr (tblAt (dbOf s) (nmOf o)) (chgR 3 (nmOf o) _) = 0
      rw [b2]
      exact chg3_err (h.dbV.at hi) hr
    · rw [q1, tbl_name hi, b2]; rfl
  · exact bad (chOpf (s := s) (x := o) (by omega) (by omega) hi hr).2 (bf4 (.inr hr)).1
theorem sim3 (h : Sim n s) (ho : OpOk o) (hk : o.kind.toNat % 9 = 3) : dxE (strOf s) o = doE s o ∧ dxS (strOf s) o = strOf (doS s o) ∧ Sim (n + 1) (doS s o) := by
  have e1 : dxE (strOf s) o = cgE (strOf s) (nmOf o) o.id o.attr (ofV o.value) := by simp [dxE, hk]
  have e2 : dxS (strOf s) o = cgS (strOf s) (nmOf o) o.id o.attr (ofV o.value) := by simp [dxS, hk]
  rw [e1, e2]
  have bad : chOpE s o = 4 → bfE (dbOf s) (nmOf o) o.id = 4 → cgE (strOf s) (nmOf o) o.id o.attr (ofV o.value) = doE s o ∧ cgS (strOf s) (nmOf o) o.id o.attr (ofV o.value) = strOf (doS s o) ∧ Sim (n + 1) (doS s o) := fun q b => by
    have hne : ¬ chOpE s o = 0 := by omega
    rw [(doc (by omega) (by omega) (by omega) (by omega) (by omega) hne).1, (doc (by omega) (by omega) (by omega) (by omega) (by omega) hne).2, q]
    exact ⟨by rw [cgE, if_pos (by rw [str_db, b]; omega), str_db, b], by rw [cgS, if_pos (by rw [str_db, b]; omega)], h.mono (Nat.le_succ n)⟩
  by_cases hi : tblIx (dbOf s) (nmOf o) < 0
  · exact bad (chOpn (s := s) (x := o) (by omega) hi).2 (bf4 (.inl hi)).1
  by_cases hr : 0 ≤ rowIx (tblAt (dbOf s) (nmOf o)).rows o.id
  · obtain ⟨b1, b2⟩ := bf0 hi hr
    obtain ⟨q1, q2⟩ := chOp3 (s := s) (x := o) (by omega) (by omega) (by omega) hi hr
    have hT := h.dbV.at hi
    have hwid := hT.width (row_at hr)
    rw [← b2] at hwid
    have c1 : cgE (strOf s) (nmOf o) o.id o.attr (ofV o.value) = if sameV (bfR (dbOf s) (nmOf o) o.id) o.attr (ofV o.value) = true then 0 else appErr (dbOf s) (chg4 (nmOf o) (bfR (dbOf s) (nmOf o) o.id) o.attr (ofV o.value)) := if_neg (by rw [str_db, b1]; omega)
    have c2 : cgS (strOf s) (nmOf o) o.id o.attr (ofV o.value) = if sameV (bfR (dbOf s) (nmOf o) o.id) o.attr (ofV o.value) = true then strOf s else pfS (strOf s) (chg4 (nmOf o) (bfR (dbOf s) (nmOf o) o.id) o.attr (ofV o.value)) := if_neg (by rw [str_db, b1]; omega)
    rw [c1, c2]
    by_cases hs : sameV (bfR (dbOf s) (nmOf o) o.id) o.attr (ofV o.value) = true
    · rw [if_pos hs, if_pos hs]
      simp only [sameV, Bool.and_eq_true, decide_eq_true_eq] at hs
      obtain ⟨⟨⟨s1, s2⟩, s3⟩, s4⟩ := hs
      have h0 : chOpE s o = 0 := by
        rw [q2]
        unfold chErr
        rw [if_neg (by rw [tok_iff.2 hT]; simp), if_neg (by simpa using hr), if_neg (by omega), if_neg (by rw [s3]; simp)]
      have hsm : chSame (chOp s o) = true := by
        rw [q1, ← b2]
        show (decide ((4 : Int) = 4) && decide ((bfR (dbOf s) (nmOf o) o.id).vals.getD o.attr.toNat default = ofV o.value)) = true
        rw [decide_eq_true s4]; rfl
      rw [(docs (by omega) (by omega) (by omega) (by omega) (by omega) h0 hsm).1, (docs (by omega) (by omega) (by omega) (by omega) (by omega) h0 hsm).2]
      exact ⟨rfl, rfl, h.mono (Nat.le_succ n)⟩
    · rw [if_neg hs, if_neg hs]
      have hk4 : 2 ≤ (chg4 (nmOf o) (bfR (dbOf s) (nmOf o) o.id) o.attr (ofV o.value)).kind ∧ (chg4 (nmOf o) (bfR (dbOf s) (nmOf o) o.id) o.attr (ofV o.value)).kind ≤ 4 := by show (2 : Int) ≤ 4 ∧ (4 : Int) ≤ 4; omega
      refine sim_ch h (by omega) (by omega) (by omega) (by omega) (by omega) ?_ (fun h0 => ⟨?_, ?_, chg4_ok (bfR_ok h.dbV) (ofV_ok _)⟩)
      · rw [q2, aE5 hk4 hi]
        show chgErr (tblAt (dbOf s) (nmOf o)) (chg4 (nmOf o) _ _ _) = _
        rw [b2]
        exact chg4_err hT hr
      · rw [q1, tbl_name hi, b2]; rfl
      · rw [q2] at h0
        obtain ⟨_, _, g3, g4, g5⟩ := chErr_0 h0
        have : ¬ (bfR (dbOf s) (nmOf o) o.id).vals.getD o.attr.toNat default = ofV o.value := fun e => hs (by
          simp only [sameV, Bool.and_eq_true, decide_eq_true_eq]
          exact ⟨⟨⟨g3, by omega⟩, g5⟩, e⟩)
        show (decide ((4 : Int) = 4) && decide ((bfR (dbOf s) (nmOf o) o.id).vals.getD o.attr.toNat default = ofV o.value)) = false
        rw [decide_eq_false this]; rfl
  · exact bad (chOpf (s := s) (x := o) (by omega) (by omega) hi hr).2 (bf4 (.inr hr)).1
theorem sim4 (h : Sim n s) (hk : o.kind.toNat % 9 = 4) : dxE (strOf s) o = doE s o ∧ dxS (strOf s) o = strOf (doS s o) ∧ Sim (n + 1) (doS s o) := by
  have e1 : dxE (strOf s) o = bgE (strOf s) := by simp [dxE, hk]
  have e2 : dxS (strOf s) o = bgS (strOf s) := by simp [dxS, hk]
  rw [e1, e2]
  by_cases hop : s.opn = true
  · rw [(do4o hk hop).1, (do4o hk hop).2]
    exact ⟨if_pos hop, if_pos hop, h.mono (Nat.le_succ n)⟩
  · have hof : s.opn = false := by simpa using hop
    rw [(do4 hk hof).1, (do4 hk hof).2]
    refine ⟨if_neg hop, if_neg hop, ⟨h.ch, h.nw, fun hf => (by cases hf), h.ok1, h.ok2, h.ok3, by have := h.n1; exact Nat.le_succ_of_le this, by have := h.n2; exact Nat.le_succ_of_le this⟩⟩
theorem com_sim (h : Sim n s) (hop : s.opn = true) : cmS (enS (strOf s)) (enL (strOf s)) = strOf (comS { s with opn := false, now := [] } s.now) ∧ Sim (n + 1) (comS { s with opn := false, now := [] } s.now) := by
  have n1 := h.n1
  have n2 := h.n2
  have e1 : enS (strOf s) = { strOf s with opn := false, now := [] } := if_pos hop
  have e2 : enL (strOf s) = s.now := if_pos hop
  rw [e1, e2]
  by_cases hz : s.now.length = 0
  · have hz' : s.now = [] := List.eq_nil_of_length_eq_zero hz
    rw [cmS, if_pos hz, comS, if_pos hz]
    refine ⟨?_, ⟨h.ch, by have := h.nw; rw [hz'] at this; exact this, fun _ => rfl, h.ok1, h.ok2, fun q hq => (by cases hq), by show s.done.flatten.length + s.undone.flatten.length + 0 ≤ n + 1; omega, by show s.done.length + s.undone.length ≤ n + 1; omega⟩⟩
    unfold strOf dbOf jr
    rw [hz']
  · have hfl : (s.done ++ [s.now]).flatten = s.done.flatten ++ s.now := by simp
    rw [cmS, if_neg hz, comS, if_neg hz]
    refine ⟨?_, ⟨?_, ?_, fun _ => rfl, ?_, fun q hq => (by cases hq), fun q hq => (by cases hq), ?_, ?_⟩⟩
    · unfold strOf dbOf jr
      simp only [hfl, List.append_nil]
    · show replE [] ((s.done ++ [s.now]).flatten ++ [].reverse.flatten) = 0
      rw [hfl]; simpa using h.nw
    · show replE [] ((s.done ++ [s.now]).flatten ++ []) = 0
      rw [hfl]; simpa using h.nw
    · intro q hq
      have hq : q ∈ (s.done ++ [s.now]).flatten := hq
      rw [hfl] at hq
      rcases List.mem_append.1 hq with hq | hq
      · exact h.ok1 q hq
      · exact h.ok3 q hq
    · show (s.done ++ [s.now]).flatten.length + 0 + 0 ≤ n + 1
      rw [hfl, List.length_append]
      omega
    · show (s.done ++ [s.now]).length + 0 ≤ n + 1
      rw [List.length_append]
      simp only [List.length_singleton]
      omega
theorem sim5 (h : Sim n s) (hk : o.kind.toNat % 9 = 5) : dxE (strOf s) o = doE s o ∧ dxS (strOf s) o = strOf (doS s o) ∧ Sim (n + 1) (doS s o) := by
  have e1 : dxE (strOf s) o = enE (strOf s) := by simp [dxE, hk]
  have e2 : dxS (strOf s) o = cmS (enS (strOf s)) (enL (strOf s)) := by simp [dxS, hk]
  rw [e1, e2]
  by_cases hop : s.opn = true
  · rw [(do5 hk hop).1, (do5 hk hop).2]
    exact ⟨if_pos hop, com_sim h hop⟩
  · have hof : s.opn = false := by simpa using hop
    rw [(do5o hk hof).1, (do5o hk hof).2]
    refine ⟨if_neg hop, ?_, h.mono (Nat.le_succ n)⟩
    rw [show enS (strOf s) = strOf s from if_neg hop, show enL (strOf s) = [] from if_neg hop]
    rfl
theorem rb_sim (h : Sim n s) (hop : s.opn = true) : rbS (strOf s) = strOf { s with opn := false, now := [] } ∧ Sim (n + 1) { s with opn := false, now := [] } := by
  have n1 := h.n1
  have n2 := h.n2
  obtain ⟨w1, w2⟩ := replE_app.1 h.nw
  have e1 : enS (strOf s) = { strOf s with opn := false, now := [] } := if_pos hop
  have e2 : enL (strOf s) = s.now := if_pos hop
  refine ⟨?_, ⟨h.ch, by show replE [] (s.done.flatten ++ []) = 0; rw [List.append_nil]; exact w1, fun _ => rfl, h.ok1, h.ok2, fun q hq => (by cases hq), by show s.done.flatten.length + s.undone.flatten.length + 0 ≤ n + 1; omega, by show s.done.length + s.undone.length ≤ n + 1; omega⟩⟩
  rw [rbS, e1, e2]
  have hdb : rvN (dbOf s) s.now s.now.length = replD [] (s.done.flatten ++ []) := by
    rw [h.db, redoD_app, rvN_all (redoD_V dbV_nil _) w2 h.ok3, List.append_nil, replD_ok w1]
  show (⟨rvN (dbOf s) s.now s.now.length, s.done, s.undone, false, []⟩ : Str) = ⟨replD [] (s.done.flatten ++ []), s.done, s.undone, false, []⟩
  rw [hdb]
theorem sim6 (h : Sim n s) (hk : o.kind.toNat % 9 = 6) : dxE (strOf s) o = doE s o ∧ dxS (strOf s) o = strOf (doS s o) ∧ Sim (n + 1) (doS s o) := by
  have e1 : dxE (strOf s) o = enE (strOf s) := by simp [dxE, hk]
  have e2 : dxS (strOf s) o = rbS (strOf s) := by simp [dxS, hk]
  rw [e1, e2]
  by_cases hop : s.opn = true
  · rw [(do6 hk hop).1, (do6 hk hop).2]
    exact ⟨if_pos hop, rb_sim h hop⟩
  · have hof : s.opn = false := by simpa using hop
    rw [(do6o hk hof).1, (do6o hk hof).2]
    refine ⟨if_neg hop, ?_, h.mono (Nat.le_succ n)⟩
    rw [rbS, show enS (strOf s) = strOf s from if_neg hop, show enL (strOf s) = [] from if_neg hop]
    rfl
theorem last_split {α : Type} [Inhabited α] {l : List α} (h : l.length ≠ 0) : l = l.take (l.length - 1) ++ [l.getD (l.length - 1) default] := by
  rw [getD_lt _ _ (by omega)]
  have := List.take_append_drop (l.length - 1) l
  rw [List.drop_eq_getElem_cons (by omega), show l.length - 1 + 1 = l.length by omega, List.drop_length] at this
  exact this.symm
theorem int_pred {k : Nat} (h : k ≠ 0) : ((k : Int) - 1).toNat = k - 1 := by omega
theorem sim7 (h : Sim n s) (hk : o.kind.toNat % 9 = 7) : dxE (strOf s) o = doE s o ∧ dxS (strOf s) o = strOf (doS s o) ∧ Sim (n + 1) (doS s o) := by
  have n1 := h.n1
  have n2 := h.n2
  have e1 : dxE (strOf s) o = udE (strOf s) := by simp [dxE, hk]
  have e2 : dxS (strOf s) o = udS (strOf s) := by simp [dxS, hk]
  rw [e1, e2]
  by_cases hc : s.opn = true ∨ s.done.length = 0
  · rw [(do7o hk hc).1, (do7o hk hc).2]
    exact ⟨if_pos hc, if_pos hc, h.mono (Nat.le_succ n)⟩
  · rw [(do7 hk hc).1, (do7 hk hc).2]
    rw [not_or] at hc
    obtain ⟨c1, c2⟩ := hc
    have hnow : s.now = [] := h.no (by simpa using c1)
    have hsp := last_split c2
    generalize hL : s.done.getD (s.done.length - 1) default = L at hsp ⊢
    generalize hI : s.done.take (s.done.length - 1) = I at hsp ⊢
    have hnw := h.nw
    have hfl : s.done.flatten = I.flatten ++ L := by rw [hsp]; simp
    rw [hnow, List.append_nil, hfl] at hnw
    obtain ⟨w1, w2⟩ := replE_app.1 hnw
    have hokL : ∀ c ∈ L, c.ok := fun c hcm => h.ok1 c (by rw [hfl]; exact List.mem_append_right _ hcm)
    have hudb : rvN (dbOf s) L L.length = replD [] (I.flatten ++ []) := by
      rw [h.db, hnow, List.append_nil, hfl, redoD_app, rvN_all (redoD_V dbV_nil _) w2 hokL, List.append_nil, replD_ok w1]
    have hopf : s.opn = false := by simpa using c1
    refine ⟨if_neg (by rw [not_or]; exact ⟨c1, c2⟩), ?_, ⟨?_, ?_, fun _ => rfl, ?_, ?_, fun q hq => (by cases hq), ?_, ?_⟩⟩
    · rw [udS, if_neg (by rw [not_or]; exact ⟨c1, c2⟩)]
      show (⟨rvN (dbOf s) (s.done.getD ((s.done.length : Int) - 1).toNat default) (s.done.getD ((s.done.length : Int) - 1).toNat default).length, s.done.take (s.done.length - 1), s.undone ++ [s.done.getD ((s.done.length : Int) - 1).toNat default], s.opn, s.now⟩ : Str) = _
      rw [int_pred c2, hL, hI, hudb, hopf, hnow]
      rfl
    · show replE [] (I.flatten ++ (s.undone ++ [L]).reverse.flatten) = 0
      have := h.ch
      rw [hfl] at this
      simpa using this
    · show replE [] (I.flatten ++ []) = 0
      rw [List.append_nil]; exact w1
    · intro q hq
      exact h.ok1 q (by rw [hfl]; exact List.mem_append_left _ hq)
    · intro q hq
      have hq : q ∈ (s.undone ++ [L]).flatten := hq
      rw [List.flatten_append] at hq
      rcases List.mem_append.1 hq with hq | hq
      · exact h.ok2 q hq
      · exact hokL q (by simpa using hq)
    · show I.flatten.length + (s.undone ++ [L]).flatten.length + 0 ≤ n + 1
      rw [hfl, List.length_append] at n1
      simp only [List.flatten_append, List.length_append, List.flatten_cons, List.flatten_nil, List.append_nil]
      omega
    · show I.length + (s.undone ++ [L]).length ≤ n + 1
      have hle : I.length ≤ s.done.length - 1 := by rw [← hI]; exact List.length_take_le _ _
      simp only [List.length_append, List.length_singleton]
      omega
theorem sim8 (h : Sim n s) (hk : o.kind.toNat % 9 = 8) : dxE (strOf s) o = doE s o ∧ dxS (strOf s) o = strOf (doS s o) ∧ Sim (n + 1) (doS s o) := by
  have n1 := h.n1
  have n2 := h.n2
  have e1 : dxE (strOf s) o = rdE (strOf s) := by simp [dxE, hk]
  have e2 : dxS (strOf s) o = rdS (strOf s) := by simp [dxS, hk]
  rw [e1, e2]
  by_cases hc : s.opn = true ∨ s.undone.length = 0
  · rw [(do8o hk hc).1, (do8o hk hc).2]
    exact ⟨if_pos hc, if_pos hc, h.mono (Nat.le_succ n)⟩
  · rw [(do8 hk hc).1, (do8 hk hc).2]
    rw [not_or] at hc
    obtain ⟨c1, c2⟩ := hc
    have hnow : s.now = [] := h.no (by simpa using c1)
    have hsp := last_split c2
    generalize hL : s.undone.getD (s.undone.length - 1) default = L at hsp ⊢
    generalize hI : s.undone.take (s.undone.length - 1) = I at hsp ⊢
    have hch := h.ch
    have hrv : s.undone.reverse.flatten = L ++ I.reverse.flatten := by rw [hsp]; simp
    have hun : s.undone.flatten = I.flatten ++ L := by rw [hsp]; simp
    rw [hrv, ← List.append_assoc] at hch
    obtain ⟨w1, w2⟩ := replE_app.1 hch
    have hfl : (s.done ++ [L]).flatten = s.done.flatten ++ L := by simp
    have hrdb : redoD (dbOf s) L = replD [] ((s.done ++ [L]).flatten ++ []) := by
      rw [h.db, hnow, List.append_nil, ← redoD_app, List.append_nil, hfl, replD_ok w1]
    have hopf : s.opn = false := by simpa using c1
    refine ⟨if_neg (by rw [not_or]; exact ⟨c1, c2⟩), ?_, ⟨?_, ?_, fun _ => rfl, ?_, ?_, fun q hq => (by cases hq), ?_, ?_⟩⟩
    · rw [rdS, if_neg (by rw [not_or]; exact ⟨c1, c2⟩)]
      show (⟨redoD (dbOf s) (s.undone.getD ((s.undone.length : Int) - 1).toNat default), s.done ++ [s.undone.getD ((s.undone.length : Int) - 1).toNat default], s.undone.take (s.undone.length - 1), s.opn, s.now⟩ : Str) = _
      rw [int_pred c2, hL, hI, hrdb, hopf, hnow]
      rfl
    · show replE [] ((s.done ++ [L]).flatten ++ I.reverse.flatten) = 0
      rw [hfl]; exact hch
    · show replE [] ((s.done ++ [L]).flatten ++ []) = 0
      rw [List.append_nil, hfl]; exact w1
    · intro q hq
      have hq : q ∈ (s.done ++ [L]).flatten := hq
      rw [hfl] at hq
      rcases List.mem_append.1 hq with hq | hq
      · exact h.ok1 q hq
      · exact h.ok2 q (by rw [hun]; exact List.mem_append_right _ hq)
    · intro q hq
      exact h.ok2 q (by rw [hun]; exact List.mem_append_left _ hq)
    · show (s.done ++ [L]).flatten.length + I.flatten.length + 0 ≤ n + 1
      rw [hun, List.length_append] at n1
      rw [hfl, List.length_append]
      omega
    · show (s.done ++ [L]).length + I.length ≤ n + 1
      have hle : I.length ≤ s.undone.length - 1 := by rw [← hI]; exact List.length_take_le _ _
      simp only [List.length_append, List.length_singleton]
      omega
theorem sim (h : Sim n s) (ho : OpOk o) : dxE (strOf s) o = doE s o ∧ dxS (strOf s) o = strOf (doS s o) ∧ Sim (n + 1) (doS s o) := by
  have hlt : o.kind.toNat % 9 < 9 := Nat.mod_lt _ (by omega)
  match hk : o.kind.toNat % 9, hlt with
  | 0, _ => exact sim0 h ho hk
  | 1, _ => exact sim1 h ho hk
  | 2, _ => exact sim2 h ho hk
  | 3, _ => exact sim3 h ho hk
  | 4, _ => exact sim4 h hk
  | 5, _ => exact sim5 h hk
  | 6, _ => exact sim6 h hk
  | 7, _ => exact sim7 h hk
  | 8, _ => exact sim8 h hk
theorem inv_rb (h : Sim n s) {i : Nat} (hi : i < s.now.length) : RvOk (rvN (strOf s).db s.now i) (s.now.getD (s.now.length - 1 - i) default) := by
  obtain ⟨w1, w2⟩ := replE_app.1 h.nw
  show RvOk (rvN (dbOf s) s.now i) _
  rw [h.db, redoD_app]
  exact rvN_ok (redoD_V dbV_nil _) w2 h.ok3 hi
theorem inv_ud (h : Sim n s) (hc : ¬ ((strOf s).opn = true ∨ (strOf s).done.length = 0)) {L : List Chg} (hL : (strOf s).done.getD (((strOf s).done.length : Int) - 1).toNat default = L) : L.length ≤ n ∧ ∀ i, i < L.length → RvOk (rvN (strOf s).db L i) (L.getD (L.length - 1 - i) default) := by
  rw [not_or] at hc
  obtain ⟨c1, c2⟩ := hc
  have c2 : s.done.length ≠ 0 := c2
  have c1 : ¬ s.opn = true := c1
  have hL : s.done.getD ((s.done.length : Int) - 1).toNat default = L := hL
  rw [int_pred c2] at hL
  have hnow : s.now = [] := h.no (by simpa using c1)
  have hsp := last_split c2
  rw [hL] at hsp
  generalize hI : s.done.take (s.done.length - 1) = I at hsp
  have hfl : s.done.flatten = I.flatten ++ L := by rw [hsp]; simp
  have hnw := h.nw
  rw [hnow, List.append_nil, hfl] at hnw
  obtain ⟨w1, w2⟩ := replE_app.1 hnw
  refine ⟨by have := h.n1; rw [hfl, List.length_append] at this; omega, fun i hi => ?_⟩
  show RvOk (rvN (dbOf s) L i) _
  rw [h.db, hnow, List.append_nil, hfl, redoD_app]
  exact rvN_ok (redoD_V dbV_nil _) w2 (fun c hcm => h.ok1 c (by rw [hfl]; exact List.mem_append_right _ hcm)) hi
theorem inv_rd (h : Sim n s) : chgsOk ((strOf s).undone.getD (((strOf s).undone.length : Int) - 1).toNat default) := by
  show chgsOk (s.undone.getD ((s.undone.length : Int) - 1).toNat default)
  intro j hj
  by_cases hz : ((s.undone.length : Int) - 1).toNat < s.undone.length
  · rw [getD_lt s.undone _ hz] at hj ⊢
    rw [getD_lt _ _ hj]
    exact h.ok2 _ (List.mem_flatten.2 ⟨_, List.getElem_mem hz, List.getElem_mem hj⟩)
  · have : s.undone.getD ((s.undone.length : Int) - 1).toNat default = [] := gd_none (by omega)
    rw [this] at hj
    cases hj
end
end Go.Hx
end
section
namespace Go.Hx
open Go.Proofs
set_option maxRecDepth 100000
theorem good18 : goodFn Tryz.prog 18 := ⟨Tryz.f18, Tryz.func18, by kernel_rfl, by kernel_rfl⟩
theorem c18h (n : Nat) (s : Stt) (o : Opn) (hn : n ≤ 1000000) (h : Sim n s) (ho : OpOk o) : HFun Tryz.prog 18 [.one (.ptr 1000 0), o.pc.toH] (strOf s).objs (.v (.one (.p (.raw (.int .i64 (doE s o)))))) (strOf (doS s o)).objs [1000] := by
  refine hfun_of (nt := 62) Tryzok Tryz.func18 rfl rfl (Nat.le_of_ble_eq_true rfl) rfl ?_
  have hsim := sim h ho
  have hX := h.sok (by omega)
  have hun : (strOf s).undone.length ≤ 68719476736 := by have := h.n2; show s.undone.length ≤ _; omega
  have hlt9 : o.kind.toNat % 9 < 9 := Nat.mod_lt _ (by omega)
  refine hw_seq ?_; refine hw_region (E := TryzE) Tryzok ?_; refine rm 0 rfl rfl rfl rfl rfl rfl ?_; refine rq rfl rfl rfl rfl rfl ?_; refine rg_nil ?_; show HW _ _ _ _ _; (iterate 2 refine hw_seq ?_)
  refine hw_region (E := TryzE) Tryzok ?_; (iterate 3 refine rq rfl rfl rfl rfl rfl ?_); refine rg_nil ?_; show HW _ _ _ _ _; refine hw_block ?_; refine hw_seq ?_; refine hw_region (E := TryzE) Tryzok ?_
  (iterate 2 refine rq rfl rfl rfl rfl rfl ?_); refine rg_nil ?_; show HW _ _ _ _ _; refine hw_cond _ rfl (fun r0 => ?_) (fun r0 => ?_)
  · skip
    have h0 := r0
    have h0 := of_decide_eq_true h0
    try simp only [Int.toNat_natCast] at h0
    refine hw_seq ?_; refine hw_region (E := TryzE) Tryzok ?_; (iterate 2 refine rq rfl rfl rfl rfl rfl ?_); refine rc rfl rfl rfl rfl rfl rfl good30 (c30 o ho.lr) (CoL.refl _) rfl rfl ?_
    refine rg_fcall rfl rfl rfl rfl rfl rfl good31 (c31h (strOf s) (tblOf o) hX (tblOf_ok ho) (chg1_ok (tblOf_ok ho))) (CoHCL.refl _) ⟨⟨_, rfl, CoO.refl _⟩, ⟨_, rfl, CoO.refl _⟩, ⟨_, rfl, CoO.refl _⟩, ⟨_, rfl, CoO.refl _⟩, trivial⟩ rfl rfl ?_
    refine rq rfl rfl rfl rfl rfl ?_; refine rg_nil ?_; show HW _ _ _ _ _; refine hw_ret ?_; refine ⟨.inr rfl, ?_⟩
    have hk : o.kind.toNat % 9 = 0 := by omega
    rw [show doE s o = appErr (strOf s).db (chg1 (tblOf o)) from hsim.1.symm.trans (by simp [dxE, hk, strOf]), show strOf (doS s o) = pfS (strOf s) (chg1 (tblOf o)) from hsim.2.1.symm.trans (by simp [dxS, hk])]
    exact ⟨_, _, rfl, (by (repeat' apply And.intro) <;> first | trivial | exact Nat.le_of_ble_eq_true rfl), CoR.refl _, ⟨⟨_, rfl, CoO.refl _⟩, ⟨_, rfl, CoO.refl _⟩, ⟨_, rfl, CoO.refl _⟩, ⟨_, rfl, CoO.refl _⟩, trivial⟩⟩
  · skip
    have h0 := r0
    have h0 := of_decide_eq_false h0
    try simp only [Int.toNat_natCast] at h0
    refine hw_seq ?_; refine hw_region (E := TryzE) Tryzok ?_; (iterate 2 refine rq rfl rfl rfl rfl rfl ?_); refine rg_nil ?_; show HW _ _ _ _ _; refine hw_cond _ rfl (fun r1 => ?_) (fun r1 => ?_)
    · skip
      have h1 := r1
      have h1 := of_decide_eq_true h1
      try simp only [Int.toNat_natCast] at h1
      refine hw_seq ?_; refine hw_draw (E := TryzE) Tryzok Tryzmixed [0, 1, 2, 3, 4, 5, 6] ?_; (iterate 2 refine rq rfl rfl rfl rfl rfl ?_); refine rc rfl rfl rfl rfl rfl rfl good35 (c35 o) (CoL.refl _) rfl rfl ?_
      refine rq rfl rfl rfl rfl rfl ?_; refine rc rfl rfl rfl rfl rfl rfl good33 (c33 o ho.lv) (CoL.refl _) rfl rfl ?_
      refine rg_fcall rfl rfl rfl rfl rfl rfl good34 (c34h (strOf s) (nmOf o) (rowOf o) hX (rowOf_ok ho).1 (chgR_ok (rowOf_ok ho))) (CoHCL.refl _) ⟨⟨_, rfl, CoO.refl _⟩, ⟨_, rfl, CoO.refl _⟩, ⟨_, rfl, CoO.refl _⟩, ⟨_, rfl, CoO.refl _⟩, trivial⟩ rfl rfl ?_
      refine rq rfl rfl rfl rfl rfl ?_; refine rg_nil ?_; refine ⟨by kernel_rfl, ?_⟩; show HW _ _ _ _ _; refine hw_ret ?_; refine ⟨.inr rfl, ?_⟩
      have hk : o.kind.toNat % 9 = 1 := by omega
      rw [show doE s o = appErr (strOf s).db (chgR 2 (nmOf o) (rowOf o)) from hsim.1.symm.trans (by simp [dxE, hk, strOf]), show strOf (doS s o) = pfS (strOf s) (chgR 2 (nmOf o) (rowOf o)) from hsim.2.1.symm.trans (by simp [dxS, hk])]
      exact ⟨_, _, rfl, (by (repeat' apply And.intro) <;> first | trivial | exact Nat.le_of_ble_eq_true rfl), CoR.refl _, ⟨⟨_, rfl, CoO.refl _⟩, ⟨_, rfl, CoO.refl _⟩, ⟨_, rfl, CoO.refl _⟩, ⟨_, rfl, CoO.refl _⟩, trivial⟩⟩
    · skip
      have h1 := r1
      have h1 := of_decide_eq_false h1
      try simp only [Int.toNat_natCast] at h1
      refine hw_seq ?_; refine hw_region (E := TryzE) Tryzok ?_; (iterate 2 refine rq rfl rfl rfl rfl rfl ?_); refine rg_nil ?_; show HW _ _ _ _ _; refine hw_cond _ rfl (fun r2 => ?_) (fun r2 => ?_)
      · skip
        have h2 := r2
        have h2 := of_decide_eq_true h2
        try simp only [Int.toNat_natCast] at h2
        refine hw_seq ?_; refine hw_draw (E := TryzE) Tryzok Tryzmixed [0, 1, 2, 3, 4, 5, 6] ?_; (iterate 2 refine rq rfl rfl rfl rfl rfl ?_); refine rc rfl rfl rfl rfl rfl rfl good35 (c35 o) (CoL.refl _) rfl rfl ?_
        (iterate 2 refine rq rfl rfl rfl rfl rfl ?_)
        refine rg_fcall rfl rfl rfl rfl rfl rfl good39 (c39h (strOf s) (nmOf o) o.id hX (chgR_ok (bfR_ok h.dbV))) (CoHCL.refl _) ⟨⟨_, rfl, CoO.refl _⟩, ⟨_, rfl, CoO.refl _⟩, ⟨_, rfl, CoO.refl _⟩, ⟨_, rfl, CoO.refl _⟩, trivial⟩ rfl rfl ?_
        refine rq rfl rfl rfl rfl rfl ?_; refine rg_nil ?_; refine ⟨by kernel_rfl, ?_⟩; show HW _ _ _ _ _; refine hw_ret ?_; refine ⟨.inr rfl, ?_⟩
        have hk : o.kind.toNat % 9 = 2 := by omega
        rw [show doE s o = dlE (strOf s) (nmOf o) o.id from hsim.1.symm.trans (by simp [dxE, hk, strOf]), show strOf (doS s o) = dlS (strOf s) (nmOf o) o.id from hsim.2.1.symm.trans (by simp [dxS, hk])]
        exact ⟨_, _, rfl, (by (repeat' apply And.intro) <;> first | trivial | exact Nat.le_of_ble_eq_true rfl), CoR.refl _, ⟨⟨_, rfl, CoO.refl _⟩, ⟨_, rfl, CoO.refl _⟩, ⟨_, rfl, CoO.refl _⟩, ⟨_, rfl, CoO.refl _⟩, trivial⟩⟩
      · skip
        have h2 := r2
        have h2 := of_decide_eq_false h2
        try simp only [Int.toNat_natCast] at h2
        refine hw_seq ?_; refine hw_region (E := TryzE) Tryzok ?_; (iterate 2 refine rq rfl rfl rfl rfl rfl ?_); refine rg_nil ?_; show HW _ _ _ _ _; refine hw_cond _ rfl (fun r3 => ?_) (fun r3 => ?_)
        · skip
          have h3 := r3
          have h3 := of_decide_eq_true h3
          try simp only [Int.toNat_natCast] at h3
          refine hw_seq ?_; refine hw_draw (E := TryzE) Tryzok Tryzmixed [0, 1, 2, 3, 4, 5, 6, 7, 8, 9, 10, 11, 12] ?_; (iterate 2 refine rq rfl rfl rfl rfl rfl ?_)
          refine rc rfl rfl rfl rfl rfl rfl good35 (c35 o) (CoL.refl _) rfl rfl ?_; (iterate 7 refine rq rfl rfl rfl rfl rfl ?_); refine rc rfl rfl rfl rfl rfl rfl good49 (c49 _ (Int.natCast_nonneg _)) (CoL.refl _) rfl rfl ?_
          refine rg_fcall rfl rfl rfl rfl rfl rfl good48 (c48h (strOf s) (nmOf o) o.id o.attr (ofV o.value) hX (chg4_ok (bfR_ok h.dbV) (ofV_ok _))) (CoHCL.refl _) ⟨⟨_, rfl, CoO.refl _⟩, ⟨_, rfl, CoO.refl _⟩, ⟨_, rfl, CoO.refl _⟩, ⟨_, rfl, CoO.refl _⟩, trivial⟩ rfl rfl ?_
          refine rq rfl rfl rfl rfl rfl ?_; refine rg_nil ?_; refine ⟨by kernel_rfl, ?_⟩; show HW _ _ _ _ _; refine hw_ret ?_; refine ⟨.inr rfl, ?_⟩
          have hk : o.kind.toNat % 9 = 3 := by omega
          rw [show doE s o = cgE (strOf s) (nmOf o) o.id o.attr (ofV o.value) from hsim.1.symm.trans (by simp [dxE, hk, strOf]), show strOf (doS s o) = cgS (strOf s) (nmOf o) o.id o.attr (ofV o.value) from hsim.2.1.symm.trans (by simp [dxS, hk])]
          exact ⟨_, _, rfl, (by (repeat' apply And.intro) <;> first | trivial | exact Nat.le_of_ble_eq_true rfl), CoR.refl _, ⟨⟨_, rfl, CoO.refl _⟩, ⟨_, rfl, CoO.refl _⟩, ⟨_, rfl, CoO.refl _⟩, ⟨_, rfl, CoO.refl _⟩, trivial⟩⟩
        · skip
          have h3 := r3
          have h3 := of_decide_eq_false h3
          try simp only [Int.toNat_natCast] at h3
          refine hw_seq ?_; refine hw_region (E := TryzE) Tryzok ?_; (iterate 2 refine rq rfl rfl rfl rfl rfl ?_); refine rg_nil ?_; show HW _ _ _ _ _; refine hw_cond _ rfl (fun r4 => ?_) (fun r4 => ?_)
          · skip
            have h4 := r4
            have h4 := of_decide_eq_true h4
            try simp only [Int.toNat_natCast] at h4
            refine hw_seq ?_; refine hw_region (E := TryzE) Tryzok ?_; refine rq rfl rfl rfl rfl rfl ?_
            refine rg_fcall rfl rfl rfl rfl rfl rfl good27 (c27 (strOf s)) (CoHCL.refl _) ⟨⟨_, rfl, CoO.refl _⟩, ⟨_, rfl, CoO.refl _⟩, ⟨_, rfl, CoO.refl _⟩, ⟨_, rfl, CoO.refl _⟩, trivial⟩ rfl rfl ?_; refine rq rfl rfl rfl rfl rfl ?_
            refine rg_nil ?_; show HW _ _ _ _ _; refine hw_ret ?_; refine ⟨.inr rfl, ?_⟩
            have hk : o.kind.toNat % 9 = 4 := by omega
            rw [show doE s o = bgE (strOf s) from hsim.1.symm.trans (by simp [dxE, hk, strOf]), show strOf (doS s o) = bgS (strOf s) from hsim.2.1.symm.trans (by simp [dxS, hk])]
            exact ⟨_, _, rfl, (by (repeat' apply And.intro) <;> first | trivial | exact Nat.le_of_ble_eq_true rfl), CoR.refl _, ⟨⟨_, rfl, CoO.refl _⟩, ⟨_, rfl, CoO.refl _⟩, ⟨_, rfl, CoO.refl _⟩, ⟨_, rfl, CoO.refl _⟩, trivial⟩⟩
          · skip
            have h4 := r4
            have h4 := of_decide_eq_false h4
            try simp only [Int.toNat_natCast] at h4
            refine hw_seq ?_; refine hw_region (E := TryzE) Tryzok ?_; (iterate 2 refine rq rfl rfl rfl rfl rfl ?_); refine rg_nil ?_; show HW _ _ _ _ _; refine hw_cond _ rfl (fun r5 => ?_) (fun r5 => ?_)
            · skip
              have h5 := r5
              have h5 := of_decide_eq_true h5
              try simp only [Int.toNat_natCast] at h5
              refine hw_seq ?_; refine hw_region (E := TryzE) Tryzok ?_; refine rq rfl rfl rfl rfl rfl ?_
              refine rg_fcall rfl rfl rfl rfl rfl rfl good28 (c28h (strOf s) hX) (CoHCL.refl _) ⟨⟨_, rfl, CoO.refl _⟩, ⟨_, rfl, CoO.refl _⟩, ⟨_, rfl, CoO.refl _⟩, ⟨_, rfl, CoO.refl _⟩, trivial⟩ rfl rfl ?_
              refine rq rfl rfl rfl rfl rfl ?_; refine rg_nil ?_; show HW _ _ _ _ _; refine hw_ret ?_; refine ⟨.inr rfl, ?_⟩
              have hk : o.kind.toNat % 9 = 5 := by omega
              rw [show doE s o = enE (strOf s) from hsim.1.symm.trans (by simp [dxE, hk, strOf]), show strOf (doS s o) = cmS (enS (strOf s)) (enL (strOf s)) from hsim.2.1.symm.trans (by simp [dxS, hk])]
              exact ⟨_, _, rfl, (by (repeat' apply And.intro) <;> first | trivial | exact Nat.le_of_ble_eq_true rfl), CoR.refl _, ⟨⟨_, rfl, CoO.refl _⟩, ⟨_, rfl, CoO.refl _⟩, ⟨_, rfl, CoO.refl _⟩, ⟨_, rfl, CoO.refl _⟩, trivial⟩⟩
            · skip
              have h5 := r5
              have h5 := of_decide_eq_false h5
              try simp only [Int.toNat_natCast] at h5
              refine hw_seq ?_; refine hw_region (E := TryzE) Tryzok ?_; (iterate 2 refine rq rfl rfl rfl rfl rfl ?_); refine rg_nil ?_; show HW _ _ _ _ _; refine hw_cond _ rfl (fun r6 => ?_) (fun r6 => ?_)
              · skip
                have h6 := r6
                have h6 := of_decide_eq_true h6
                try simp only [Int.toNat_natCast] at h6
                refine hw_seq ?_; refine hw_region (E := TryzE) Tryzok ?_; refine rq rfl rfl rfl rfl rfl ?_
                refine rg_fcall rfl rfl rfl rfl rfl rfl good29 (c29h (strOf s) hX.db hX.nw (fun _ i hi => inv_rb h hi)) (CoHCL.refl _) ⟨⟨_, rfl, CoO.refl _⟩, ⟨_, rfl, CoO.refl _⟩, ⟨_, rfl, CoO.refl _⟩, ⟨_, rfl, CoO.refl _⟩, trivial⟩ rfl rfl ?_
                refine rq rfl rfl rfl rfl rfl ?_; refine rg_nil ?_; show HW _ _ _ _ _; refine hw_ret ?_; refine ⟨.inr rfl, ?_⟩
                have hk : o.kind.toNat % 9 = 6 := by omega
                rw [show doE s o = enE (strOf s) from hsim.1.symm.trans (by simp [dxE, hk, strOf]), show strOf (doS s o) = rbS (strOf s) from hsim.2.1.symm.trans (by simp [dxS, hk])]
                exact ⟨_, _, rfl, (by (repeat' apply And.intro) <;> first | trivial | exact Nat.le_of_ble_eq_true rfl), CoR.refl _, ⟨⟨_, rfl, CoO.refl _⟩, ⟨_, rfl, CoO.refl _⟩, ⟨_, rfl, CoO.refl _⟩, ⟨_, rfl, CoO.refl _⟩, trivial⟩⟩
              · skip
                have h6 := r6
                have h6 := of_decide_eq_false h6
                try simp only [Int.toNat_natCast] at h6
                refine hw_seq ?_; refine hw_region (E := TryzE) Tryzok ?_; (iterate 2 refine rq rfl rfl rfl rfl rfl ?_); refine rg_nil ?_; show HW _ _ _ _ _; refine hw_cond _ rfl (fun r7 => ?_) (fun r7 => ?_)
                · skip
                  have h7 := r7
                  have h7 := of_decide_eq_true h7
                  try simp only [Int.toNat_natCast] at h7
                  refine hw_seq ?_; refine hw_region (E := TryzE) Tryzok ?_; refine rq rfl rfl rfl rfl rfl ?_
                  refine rg_fcall rfl rfl rfl rfl rfl rfl good24 (c24h (strOf s) hX.db hX.dn hun (fun hc => ⟨Nat.le_trans (inv_ud h hc rfl).1 (by omega), (inv_ud h hc rfl).2⟩)) (CoHCL.refl _) ⟨⟨_, rfl, CoO.refl _⟩, ⟨_, rfl, CoO.refl _⟩, ⟨_, rfl, CoO.refl _⟩, ⟨_, rfl, CoO.refl _⟩, trivial⟩ rfl rfl ?_
                  refine rq rfl rfl rfl rfl rfl ?_; refine rg_nil ?_; show HW _ _ _ _ _; refine hw_ret ?_; refine ⟨.inr rfl, ?_⟩
                  have hk : o.kind.toNat % 9 = 7 := by omega
                  rw [show doE s o = udE (strOf s) from hsim.1.symm.trans (by simp [dxE, hk, strOf]), show strOf (doS s o) = udS (strOf s) from hsim.2.1.symm.trans (by simp [dxS, hk])]
                  exact ⟨_, _, rfl, (by (repeat' apply And.intro) <;> first | trivial | exact Nat.le_of_ble_eq_true rfl), CoR.refl _, ⟨⟨_, rfl, CoO.refl _⟩, ⟨_, rfl, CoO.refl _⟩, ⟨_, rfl, CoO.refl _⟩, ⟨_, rfl, CoO.refl _⟩, trivial⟩⟩
                · skip
                  have h7 := r7
                  have h7 := of_decide_eq_false h7
                  try simp only [Int.toNat_natCast] at h7
                  refine hw_skip ?_; show HW _ _ _ _ _; refine hw_seq ?_; refine hw_region (E := TryzE) Tryzok ?_; refine rq rfl rfl rfl rfl rfl ?_
                  refine rg_fcall rfl rfl rfl rfl rfl rfl good25 (c25h (strOf s) hX.db hX.dn hun (inv_rd h)) (CoHCL.refl _) ⟨⟨_, rfl, CoO.refl _⟩, ⟨_, rfl, CoO.refl _⟩, ⟨_, rfl, CoO.refl _⟩, ⟨_, rfl, CoO.refl _⟩, trivial⟩ rfl rfl ?_
                  refine rq rfl rfl rfl rfl rfl ?_; refine rg_nil ?_; show HW _ _ _ _ _; refine hw_ret ?_; refine ⟨.inr rfl, ?_⟩
                  have hk : o.kind.toNat % 9 = 8 := by omega
                  rw [show doE s o = rdE (strOf s) from hsim.1.symm.trans (by simp [dxE, hk, strOf]), show strOf (doS s o) = rdS (strOf s) from hsim.2.1.symm.trans (by simp [dxS, hk])]
                  exact ⟨_, _, rfl, (by (repeat' apply And.intro) <;> first | trivial | exact Nat.le_of_ble_eq_true rfl), CoR.refl _, ⟨⟨_, rfl, CoO.refl _⟩, ⟨_, rfl, CoO.refl _⟩, ⟨_, rfl, CoO.refl _⟩, ⟨_, rfl, CoO.refl _⟩, trivial⟩⟩
end Go.Hx
end
section
namespace Go.Hx
def wkN (d : DB) : Int := if d.length = 1 then ((d.getD 0 default).rows.length : Int) else -1
def plS (s : Stt) : List Opn → Stt
  | [] => s
  | o :: l => plS (doS s o) l
theorem few_ops {l : List Opn} {m : Int} (h : few l m = true) : (∀ o ∈ l, OpOk o) ∧ (l.length : Int) ≤ m := by
  simp only [few, Bool.and_eq_true, List.all_eq_true, decide_eq_true_eq] at h
  refine ⟨fun o ho => ?_, h.2⟩
  have := h.1 o ho
  simp only [fewOp, Bool.and_eq_true, decide_eq_true_eq] at this
  exact ⟨by omega, by omega⟩
abbrev Str.objsAt (k : Nat) (x : Str) : List (Nat × HObj) :=
  [(k, .box [.p (tbls x.db), .ref 901 x.done.length, .ref 902 x.undone.length, .p (.raw (.bool x.opn)), .ref 903 x.now.length]),
   (901, .arr false 1 23 x.done.length (lf txC x.done)), (902, .arr false 1 23 x.undone.length (lf txC x.undone)), (903, .arr false 11 49 x.now.length (lf Chg.c x.now))]
end Go.Hx
end
section
namespace Go.Hx
open Go.Proofs
set_option maxRecDepth 100000
theorem good38 : goodFn Tryz.prog 38 := ⟨Tryz.f38, Tryz.func38, by kernel_rfl, by kernel_rfl⟩
theorem c38h (x : Str) (hd : dbV x.db) : HFun Tryz.prog 38 [.one (.ptr 1001 0)] ((1001, .box [.ptr 1000 0]) :: x.objs) (.v (.one (.p (.raw (.int .i64 (wkN x.db)))))) ((1001, .box [.ptr 1000 0]) :: x.objs) [1000, 1001] := by
  refine hfun_of (nt := 15) Tryzok Tryz.func38 rfl rfl (Nat.le_of_ble_eq_true rfl) rfl ?_; refine hw_seq ?_; refine hw_region (E := TryzE) Tryzok ?_; refine rq rfl rfl rfl rfl rfl ?_; refine rg_nil ?_; show HW _ _ _ _ _
  (iterate 2 refine hw_seq ?_); refine hw_region (E := TryzE) Tryzok ?_; refine rq rfl rfl rfl rfl rfl ?_
  refine rg_fcall rfl rfl rfl rfl rfl rfl good22 (c22h x hd) (CoHCL.refl _) ⟨⟨_, rfl, CoO.refl _⟩, ⟨_, rfl, CoO.refl _⟩, ⟨_, rfl, CoO.refl _⟩, ⟨_, rfl, CoO.refl _⟩, trivial⟩ rfl rfl ?_; refine rm 0 rfl rfl rfl rfl rfl rfl ?_
  refine rs rfl rfl rfl rfl rfl ?_; refine rg_nil ?_; show HW _ _ _ _ _; refine hw_seq ?_; refine hw_region (E := TryzE) Tryzok ?_; (iterate 4 refine rq rfl rfl rfl rfl rfl ?_); refine rg_nil ?_; show HW _ _ _ _ _
  refine hw_cond _ rfl (fun r0 => ?_) (fun r0 => ?_)
  · skip
    have h0 := r0
    have h0 := of_decide_eq_true h0
    try simp only [Int.toNat_natCast] at h0
    refine hw_seq ?_; refine hw_region (E := TryzE) Tryzok ?_; (iterate 7 refine rq rfl rfl rfl rfl rfl ?_); refine rg_nil ?_; show HW _ _ _ _ _; refine hw_ret ?_; refine ⟨.inr rfl, ?_⟩
    rw [show wkN x.db = ((x.db.getD 0 default).rows.length : Int) from if_pos (by omega)]
    exact ⟨_, _, rfl, (by (repeat' apply And.intro) <;> first | trivial | exact Nat.le_of_ble_eq_true rfl), CoR.refl _, ⟨⟨_, rfl, CoO.refl _⟩, ⟨_, rfl, CoO.refl _⟩, ⟨_, rfl, CoO.refl _⟩, ⟨_, rfl, CoO.refl _⟩, ⟨_, rfl, CoO.refl _⟩, trivial⟩⟩
  · skip
    have h0 := r0
    have h0 := of_decide_eq_false h0
    try simp only [Int.toNat_natCast] at h0
    refine hw_skip ?_; show HW _ _ _ _ _; refine hw_seq ?_; refine hw_region (E := TryzE) Tryzok ?_; refine rq rfl rfl rfl rfl rfl ?_; refine rg_nil ?_; show HW _ _ _ _ _; refine hw_ret ?_; refine ⟨.inr rfl, ?_⟩
    rw [show wkN x.db = -1 from if_neg (by omega)]
    exact ⟨_, _, rfl, (by (repeat' apply And.intro) <;> first | trivial | exact Nat.le_of_ble_eq_true rfl), CoR.refl _, ⟨⟨_, rfl, CoO.refl _⟩, ⟨_, rfl, CoO.refl _⟩, ⟨_, rfl, CoO.refl _⟩, ⟨_, rfl, CoO.refl _⟩, ⟨_, rfl, CoO.refl _⟩, trivial⟩⟩
end Go.Hx
end
section
namespace Go.Hx
open Go.Proofs
abbrev vI' (e : Int) : HR := .v (.one (.p (.raw (.int .i64 e))))
section
variable {n : Nat} {s : Stt} {o : Opn} {e : Int}
theorem awC (hn : n ≤ 1000000) (h : Sim n s) (ho : OpOk o) (hk : o.kind.toNat % 9 = 0) (he : doE s o = e) : HFun Tryz.prog 31 [.one (.ptr 1000 0), (tblOf o).pc.toH] (strOf s).objs (vI' e) (strOf (doS s o)).objs [1000] := by
  have hs := sim h ho
  have q := c31h (strOf s) (tblOf o) (h.sok (by omega)) (tblOf_ok ho) (chg1_ok (tblOf_ok ho))
  rw [show appErr (strOf s).db (chg1 (tblOf o)) = e from by rw [← he, ← hs.1]; simp [dxE, hk], show pfS (strOf s) (chg1 (tblOf o)) = strOf (doS s o) from by rw [← hs.2.1]; simp [dxS, hk]] at q
  exact q
theorem awI (hn : n ≤ 1000000) (h : Sim n s) (ho : OpOk o) (hk : o.kind.toNat % 9 = 1) (he : doE s o = e) : HFun Tryz.prog 34 [.one (.ptr 1000 0), .one (.p (.raw (.string (nmOf o)))), (rowOf o).pc.toH] (strOf s).objs (vI' e) (strOf (doS s o)).objs [1000] := by
  have hs := sim h ho
  have q := c34h (strOf s) (nmOf o) (rowOf o) (h.sok (by omega)) (rowOf_ok ho).1 (chgR_ok (rowOf_ok ho))
  rw [show appErr (strOf s).db (chgR 2 (nmOf o) (rowOf o)) = e from by rw [← he, ← hs.1]; simp [dxE, hk], show pfS (strOf s) (chgR 2 (nmOf o) (rowOf o)) = strOf (doS s o) from by rw [← hs.2.1]; simp [dxS, hk]] at q
  exact q
theorem awD (hn : n ≤ 1000000) (h : Sim n s) (ho : OpOk o) (hk : o.kind.toNat % 9 = 2) (he : doE s o = e) : HFun Tryz.prog 39 [.one (.ptr 1000 0), .one (.p (.raw (.string (nmOf o)))), .one (.p (.raw (.int .i64 o.id)))] (strOf s).objs (vI' e) (strOf (doS s o)).objs [1000] := by
  have hs := sim h ho
  have q := c39h (strOf s) (nmOf o) o.id (h.sok (by omega)) (chgR_ok (bfR_ok h.dbV))
  rw [show dlE (strOf s) (nmOf o) o.id = e from by rw [← he, ← hs.1]; simp [dxE, hk], show dlS (strOf s) (nmOf o) o.id = strOf (doS s o) from by rw [← hs.2.1]; simp [dxS, hk]] at q
  exact q
theorem awB (h : Sim n s) (ho : OpOk o) (hk : o.kind.toNat % 9 = 4) (he : doE s o = e) : HFun Tryz.prog 27 [.one (.ptr 1000 0)] (strOf s).objs (vI' e) (strOf (doS s o)).objs [1000] := by
  have hs := sim h ho
  have q := c27 (strOf s)
  rw [show bgE (strOf s) = e from by rw [← he, ← hs.1]; simp [dxE, hk], show bgS (strOf s) = strOf (doS s o) from by rw [← hs.2.1]; simp [dxS, hk]] at q
  exact q
theorem awX (hn : n ≤ 1000000) (h : Sim n s) (ho : OpOk o) (hk : o.kind.toNat % 9 = 6) (he : doE s o = e) : HFun Tryz.prog 29 [.one (.ptr 1000 0)] (strOf s).objs (vI' e) (strOf (doS s o)).objs [1000] := by
  have hs := sim h ho
  have hX := h.sok (by omega)
  have q := c29h (strOf s) hX.db hX.nw (fun _ i hi => inv_rb h hi)
  rw [show enE (strOf s) = e from by rw [← he, ← hs.1]; simp [dxE, hk], show rbS (strOf s) = strOf (doS s o) from by rw [← hs.2.1]; simp [dxS, hk]] at q
  exact q
theorem awU (hn : n ≤ 1000000) (h : Sim n s) (ho : OpOk o) (hk : o.kind.toNat % 9 = 7) (he : doE s o = e) : HFun Tryz.prog 24 [.one (.ptr 1000 0)] (strOf s).objs (vI' e) (strOf (doS s o)).objs [1000] := by
  have hs := sim h ho
  have hX := h.sok (by omega)
  have hun : (strOf s).undone.length ≤ 68719476736 := by have := h.n2; show s.undone.length ≤ _; omega
  have q := c24h (strOf s) hX.db hX.dn hun (fun hc => ⟨Nat.le_trans (inv_ud h hc rfl).1 (by omega), (inv_ud h hc rfl).2⟩)
  rw [show udE (strOf s) = e from by rw [← he, ← hs.1]; simp [dxE, hk], show udS (strOf s) = strOf (doS s o) from by rw [← hs.2.1]; simp [dxS, hk]] at q
  exact q
theorem awR (hn : n ≤ 1000000) (h : Sim n s) (ho : OpOk o) (hk : o.kind.toNat % 9 = 8) (he : doE s o = e) : HFun Tryz.prog 25 [.one (.ptr 1000 0)] (strOf s).objs (vI' e) (strOf (doS s o)).objs [1000] := by
  have hs := sim h ho
  have hX := h.sok (by omega)
  have hun : (strOf s).undone.length ≤ 68719476736 := by have := h.n2; show s.undone.length ≤ _; omega
  have q := c25h (strOf s) hX.db hX.dn hun (inv_rd h)
  rw [show rdE (strOf s) = e from by rw [← he, ← hs.1]; simp [dxE, hk], show rdS (strOf s) = strOf (doS s o) from by rw [← hs.2.1]; simp [dxS, hk]] at q
  exact q
end
abbrev opC : Opn := ⟨0, 0, ⟨1, 0, [[11]]⟩, 0, [], 0, 0⟩
abbrev opI (k : Int) : Opn := ⟨1, 0, default, k, [1], 0, 0⟩
abbrev opK (k : UInt8) : Opn := ⟨k, 0, default, 0, [], 0, 0⟩
abbrev opD : Opn := ⟨2, 0, default, 1, [], 0, 0⟩
theorem opC_ok : OpOk opC := ⟨Nat.le_of_ble_eq_true rfl, Nat.le_of_ble_eq_true rfl⟩
theorem opI_ok {k : Int} : OpOk (opI k) := ⟨Nat.le_of_ble_eq_true rfl, Nat.le_of_ble_eq_true rfl⟩
theorem opK_ok {k : UInt8} : OpOk (opK k) := ⟨Nat.le_of_ble_eq_true rfl, Nat.le_of_ble_eq_true rfl⟩
theorem opD_ok : OpOk opD := ⟨Nat.le_of_ble_eq_true rfl, Nat.le_of_ble_eq_true rfl⟩
def w0 : Stt := default
def w1 : Stt := doS w0 opC
def w2 : Stt := doS w1 (opI 2)
def w3 : Stt := doS w2 (opK 7)
def w4 : Stt := doS w3 (opK 8)
def w5 : Stt := doS w4 (opK 7)
def w6 : Stt := doS w5 (opI 3)
def w7 : Stt := doS w6 (opK 8)
def w8 : Stt := doS w7 (opK 4)
def w9 : Stt := doS w8 opD
def w10 : Stt := doS w9 (opK 6)
theorem s0 : Sim 0 w0 := sim00
theorem s1 : Sim 1 w1 := (sim s0 opC_ok).2.2
theorem s2 : Sim 2 w2 := (sim s1 opI_ok).2.2
theorem s3 : Sim 3 w3 := (sim s2 opK_ok).2.2
theorem s4 : Sim 4 w4 := (sim s3 opK_ok).2.2
theorem s5 : Sim 5 w5 := (sim s4 opK_ok).2.2
theorem s6 : Sim 6 w6 := (sim s5 opI_ok).2.2
theorem s7 : Sim 7 w7 := (sim s6 opK_ok).2.2
theorem s8 : Sim 8 w8 := (sim s7 opK_ok).2.2
theorem s9 : Sim 9 w9 := (sim s8 opD_ok).2.2
theorem s10 : Sim 10 w10 := (sim s9 opK_ok).2.2
theorem e1 : doE w0 opC = 0 := by kernel_rfl
theorem e2 : doE w1 (opI 2) = 0 := by kernel_rfl
theorem e3 : doE w2 (opK 7) = 0 := by kernel_rfl
theorem e4 : doE w3 (opK 8) = 0 := by kernel_rfl
theorem e5 : doE w4 (opK 7) = 0 := by kernel_rfl
theorem e6 : doE w5 (opI 3) = 0 := by kernel_rfl
theorem e7 : doE w6 (opK 8) = 16 := by kernel_rfl
theorem e8 : doE w7 (opK 4) = 0 := by kernel_rfl
theorem e9 : doE w8 opD = 0 := by kernel_rfl
theorem e10 : doE w9 (opK 6) = 0 := by kernel_rfl
theorem k3 : wkN (dbOf w3) = 1 := by kernel_rfl
theorem k4 : wkN (dbOf w4) = 2 := by kernel_rfl
theorem d10 : dbOf w10 = [⟨⟨#[114]⟩, [⟨#[97]⟩], [⟨1, [ofV 11]⟩, ⟨3, [ofV 1]⟩]⟩] := by kernel_rfl
theorem j10 : w10.done.flatten.length = 2 := by kernel_rfl
theorem aw38 {s : Stt} {k : Int} (hd : dbV (dbOf s)) (hk : wkN (dbOf s) = k) : HFun Tryz.prog 38 [.one (.ptr 1001 0)] ((1001, .box [.ptr 1000 0]) :: (strOf s).objs) (vI' k) ((1001, .box [.ptr 1000 0]) :: (strOf s).objs) [1000, 1001] := by
  have q := c38h (strOf s) hd
  rw [show wkN (strOf s).db = k from hk] at q
  exact q
theorem aw22 : HFun Tryz.prog 22 [.one (.ptr 1000 0)] (strOf w10).objs (.v (dbpc [⟨⟨#[114]⟩, [⟨#[97]⟩], [⟨1, [ofV 11]⟩, ⟨3, [ofV 1]⟩]⟩]).toH) (strOf w10).objs [1000] := by
  have q := c22h (strOf w10) s10.dbV
  rw [show (strOf w10).db = [⟨⟨#[114]⟩, [⟨#[97]⟩], [⟨1, [ofV 11]⟩, ⟨3, [ofV 1]⟩]⟩] from d10] at q
  exact q
theorem aw23 : HFun Tryz.prog 23 [.one (.ptr 1000 0)] (strOf w10).objs (.v (.one (.ref 911 2))) ((strOf w10).objs ++ [(911, .arr true 11 49 2 (lf Chg.c w10.done.flatten))]) [1000] := by
  have q := c23h (strOf w10) (by show w10.done.flatten.length ≤ _; rw [j10]; omega) (fun i k hi hk => by
    have hi : i < w10.done.length := hi
    have hk : k < (w10.done.getD i default).length := hk
    show ((w10.done.getD i default).getD k default).ok
    rw [getD_lt _ _ hi] at hk ⊢
    rw [getD_lt _ _ hk]
    exact s10.ok1 _ (List.mem_flatten.2 ⟨_, List.getElem_mem hi, List.getElem_mem hk⟩))
  rw [show (strOf w10).done.flatten.length = 2 from j10] at q
  exact q
end Go.Hx
end
section
namespace Go.Hx
open Go.Proofs
set_option maxRecDepth 100000
theorem good37 : goodFn Tryz.prog 37 := ⟨Tryz.f37, Tryz.func37, by kernel_rfl, by kernel_rfl⟩
theorem c37 (k : Int) : HPure Tryz.prog 37 [pI k] (prOf [(rowOf (⟨0, 0, default, k, [1], 0, 0⟩ : Opn)).pc]) := by
  refine hpure_of (nt := 7) Tryzok Tryz.func37 rfl rfl (Nat.le_of_ble_eq_true rfl) ?_; refine hw_seq ?_; refine hw_region (E := TryzE) Tryzok ?_; refine rm 0 rfl rfl rfl rfl rfl rfl ?_; refine rg_nil ?_; show HW _ _ _ _ _
  refine hw_seq ?_; refine hw_region (E := TryzE) Tryzok ?_; refine rq rfl rfl rfl rfl rfl ?_; refine rm 1 rfl rfl rfl rfl rfl rfl ?_; refine rq rfl rfl rfl rfl rfl ?_
  refine rg_fcall rfl rfl rfl rfl rfl rfl good33 (HPure.eat (hcs := [.agg [.p ((⟨0, 0, default, k, [1], 0, 0⟩ : Opn).c 0), .p ((⟨0, 0, default, k, [1], 0, 0⟩ : Opn).c 1), .p ((⟨0, 0, default, k, [1], 0, 0⟩ : Opn).c 2), .p ((⟨0, 0, default, k, [1], 0, 0⟩ : Opn).c 3), .p ((⟨0, 0, default, k, [1], 0, 0⟩ : Opn).c 4), .p ((⟨0, 0, default, k, [1], 0, 0⟩ : Opn).c 5), .ref 1 1, .p ((⟨0, 0, default, k, [1], 0, 0⟩ : Opn).c 7), .p ((⟨0, 0, default, k, [1], 0, 0⟩ : Opn).c 8)]]) (o1 := [(1, .arr true 1 5 1 (lf u8C [1]))]) (c33 (⟨0, 0, default, k, [1], 0, 0⟩ : Opn) (by show 1 ≤ 68719476736; decide)) rfl (by (repeat' apply And.intro) <;> first | trivial | rfl) (CoL.refl _)) (⟨⟨CoH.refl _, CoH.refl _, CoH.refl _, CoH.refl _, co_nil, CoH.refl _, CoH.refl _, CoH.refl _, CoH.refl _, trivial⟩, trivial⟩) ⟨⟨_, rfl, ⟨fun h => h, rfl, rfl, rfl, lt1b (lt1 (CoP.refl _))⟩⟩, trivial⟩ rfl rfl ?_
  refine rs rfl rfl rfl rfl rfl ?_; refine rg_nil ?_; show HW _ _ _ _ _; refine hw_ret ?_; refine ⟨.inr rfl, ?_⟩
  exact ⟨_, _, _, _, rfl, (by (repeat' apply And.intro) <;> first | trivial | exact Nat.le_of_ble_eq_true rfl | rfl), rfl, (by (repeat' apply And.intro) <;> first | trivial | exact Nat.le_of_ble_eq_true rfl | rfl), CoL.refl _⟩
end Go.Hx
end
