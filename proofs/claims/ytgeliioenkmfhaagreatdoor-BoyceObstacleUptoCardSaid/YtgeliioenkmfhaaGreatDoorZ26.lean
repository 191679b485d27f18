/- A part of the proof: lemmas for the theorem of this claim, merged by a program of ours out of Hx24, Cs17, V15, Cs18, V16, Cs19. -/
import Derived.Test.YtgeliioenkmfhaaGreatDoorZ15
import Derived.Test.YtgeliioenkmfhaaGreatDoorZ25
set_option linter.all false
section
namespace Go.Hx
open Go.RowKit
section
variable {w0 : World} {nt : Nat} {c : Ctx} {s : S} {a : Act} {w : World}
theorem RelC.short (h : RelC w0 nt c s a w) {id id' sz n m : Nat} {el : TypeId} {f : Nat → Nat → PV} (ho : s.o id = some (.arr true sz el n f)) (hm : m ≤ n) (hnm : NM s id') (hno : s.o id' = none) {u : Value} (hu : RepH c s.o (.win id n 0 m) u) :
    ∃ c', c'.old = c.old ∧ RelC w0 nt c' ((s.setO id none).setO id' (some (.arr true sz el m f))) a w ∧ RepHR c' ((s.setO id none).setO id' (some (.arr true sz el m f))).o (.v (.one (.ref id' m))) u := by
  have hne : id ≠ id' := fun e => by rw [← e, ho] at hno; cases hno
  obtain ⟨ad, ad', cap, q1, q2, q3, q4, q5, q6⟩ := win_own hu ho rfl
  obtain ⟨h0, h1, h5⟩ := h.objs id _ ho
  have hold : ∀ k ob, ((s.setO id none).setO id' (some (.arr true sz el m f))).o k = some ob → k ≠ id' → s.o k = some ob ∧ k ≠ id := fun k ob hk hk' => by
    simp only [S.setO, if_neg hk'] at hk
    by_cases hki : k = id
    · subst hki; simp at hk
    · rw [if_neg hki] at hk; exact ⟨hk, hki⟩
  obtain ⟨bk, hbk, hok⟩ : ∃ bk : Option Nat, (∀ b, bk = some b → c.blk id = some b) ∧ ∀ c' : Ctx, c'.imm = c.imm → c'.own id' = u → c'.blk id' = bk → ∀ o' : Objs, ObjOk 0 c' o' w id' (.arr true sz el m f) := by
    rcases h5 with ⟨h6, xs, h2, h4⟩ | ⟨h6 | h6, h7, h8⟩
    · obtain ⟨hxl, hrow⟩ := h2
      rcases hrow with ⟨hv0, hz⟩ | ⟨g, cap', cur, hown, hbase, hheap, hnc, hcm, hcs, htake⟩
      · rw [hv0] at q1
        simp only [Value.slice.injEq] at q1
        obtain ⟨rfl, _, rfl⟩ := q1
        obtain rfl : n = 0 := by omega
        obtain rfl : m = 0 := by omega
        refine ⟨none, fun b hb => (by cases hb), fun c' e1 e2 e3 o' => ⟨h0, Nat.zero_le _, .inr ⟨.inr rfl, e3, ?_⟩⟩⟩
        rw [e2, q2]
        exact ⟨ad', 0, rfl, Nat.le_refl _, Nat.zero_le _, fun _ => rfl, fun h => absurd h (Nat.lt_irrefl 0)⟩
      · rw [hown] at q1
        simp only [Value.slice.injEq, true_and] at q1
        obtain ⟨rfl, rfl⟩ := q1
        by_cases hcap : cap' = 0
        · subst hcap
          obtain rfl : m = 0 := by omega
          refine ⟨none, fun b hb => (by cases hb), fun c' e1 e2 e3 o' => ⟨h0, Nat.zero_le _, .inr ⟨.inr rfl, e3, ?_⟩⟩⟩
          rw [e2, q2]
          exact ⟨ad', 0, rfl, Nat.le_refl _, Nat.zero_le _, fun _ => rfl, fun h => absurd h (Nat.lt_irrefl 0)⟩
        · obtain rfl := q6 (by omega)
          simp only [Option.map_some, add_lit, Nat.zero_mul, Nat.add_zero, Nat.sub_zero] at q2
          have hmul : m * sz ≤ n * sz := Nat.mul_le_mul_right _ hm
          refine ⟨some g, fun b hb => by rw [h6, hown]; exact hb, fun c' e1 e2 e3 o' => ⟨h0, Nat.le_trans hm h1, .inl ⟨by rw [e2, e3, q2]; rfl, xs.take (m * sz), ⟨by rw [List.length_take, hxl, Nat.min_eq_left hmul], .inr ⟨g, cap', cur, by rw [e2, q2], hbase, hheap, by omega, hcm, hcs, ?_⟩⟩, fun i j hi hj => ?_⟩⟩⟩
          · rw [← htake, List.take_take, Nat.min_eq_left hmul]
          · obtain ⟨x, hx, hr⟩ := h4 i j (by omega) hj
            refine ⟨x, ?_, by rw [e1]; exact hr⟩
            rw [List.getElem?_take, if_pos (mul_idx hi hj)]
            exact hx
    · cases h6
    · subst h6
      obtain rfl : m = 0 := by omega
      refine ⟨none, fun b hb => (by cases hb), fun c' e1 e2 e3 o' => ⟨h0, Nat.zero_le _, .inr ⟨.inr rfl, e3, ?_⟩⟩⟩
      obtain ⟨ad2, cap2, r1, r2, r3, r4, _⟩ := h8
      rw [q1] at r1
      simp only [Value.slice.injEq, true_and] at r1
      obtain ⟨rfl, rfl⟩ := r1
      obtain rfl : cap = 0 := r4 rfl
      rw [e2, q2]
      exact ⟨ad', 0, rfl, Nat.le_refl _, Nat.zero_le _, fun _ => rfl, fun h => absurd h (Nat.lt_irrefl 0)⟩
  have hevo : ∀ k, k ≠ id' → Evo c s.o { c with own := fun k => if k = id' then u else c.own k, blk := fun k => if k = id' then bk else c.blk k } ((s.setO id none).setO id' (some (.arr true sz el m f))).o k := fun k hk => by
    by_cases hki : k = id
    · subst hki
      exact .inl (by simp [S.setO, hk])
    · exact Evo.of_same (by simp [S.setO, hk, hki]) (by simp [hk])
  refine ⟨{ c with own := fun k => if k = id' then u else c.own k, blk := fun k => if k = id' then bk else c.blk k }, rfl, ⟨h.defers, h.size, h.below, fun d x hx => ?_, fun k ob hk => ?_, fun i i' obi obi' b hi hi' hb hb' => ?_, h.imm, fun k ob b hk hb => ?_, h.was, h.frm, fun k ob b hk hb => ?_, fun k hk => ?_⟩, ?_⟩
  · exact (h.tmps d x hx).evo (Imm.le.refl c.imm) fun k hkm => hevo k (by rintro rfl; exact hnm.1 d x hx hkm)
  · by_cases hk' : k = id'
    · subst hk'
      obtain rfl : ob = .arr true sz el m f := by simpa [S.setO] using hk.symm
      refine hok _ ?_ ?_ ?_ _ <;> first | rfl | exact if_pos rfl
    · obtain ⟨hk1, hk2⟩ := hold k ob hk hk'
      exact (h.objs k ob hk1).keep (Imm.le.refl c.imm) (by simp [hk']) (by simp [hk']) (fun j hj => hevo j (by rintro rfl; exact hnm.2.1 k ob hk1 hj)) fun b _ => rfl
  · have hone : ∀ k ob b, k ≠ id' → ((s.setO id none).setO id' (some (.arr true sz el m f))).o k = some ob → c.blk k = some b → bk = some b → False := fun k ob b hk' hk hb hbb => by
      obtain ⟨hk1, hk2⟩ := hold k ob hk hk'
      exact hk2 (h.inj k id ob _ b hk1 ho hb (hbk b hbb))
    by_cases e1 : i = id'
    · by_cases e2 : i' = id'
      · rw [e1, e2]
      · exact (hone i' obi' b e2 hi' (by simpa [e2] using hb') (by simpa [e1] using hb)).elim
    · by_cases e2 : i' = id'
      · exact (hone i obi b e1 hi (by simpa [e1] using hb) (by simpa [e2] using hb')).elim
      · exact h.inj i i' obi obi' b (hold i obi hi e1).1 (hold i' obi' hi' e2).1 (by simpa [e1] using hb) (by simpa [e2] using hb')
  · by_cases hk' : k = id'
    · exact h.sep id _ b ho (hbk b (by simpa [hk'] using hb))
    · exact h.sep k ob b (hold k ob hk hk').1 (by simpa [hk'] using hb)
  · by_cases hk' : k = id'
    · exact h.fsep id _ b ho (hbk b (by simpa [hk'] using hb))
    · exact h.fsep k ob b (hold k ob hk hk').1 (by simpa [hk'] using hb)
  · exact (h.fixed k hk).trans (hevo k (by have := hnm.2.2; omega))
  · refine ⟨hu.1, fun l => by simp [S.setO], fun ob2 s2 e2 n2 ho2 hd2 => ?_⟩
    simp only [S.setO, if_true, Option.some.injEq] at ho2
    subst ho2
    simp only [HObj.dim, Option.some.injEq, Prod.mk.injEq] at hd2
    obtain ⟨rfl, rfl, rfl⟩ := hd2
    exact ⟨Nat.le_refl _, fun _ => by simp⟩
end
section
variable {ro : Option Nat} {P : Program} {nt : Nat} {st : HSt} {Q : Exit → HSt → Prop}
theorem hw_short {c : Code} (d id2 : Nat) {id n n' i m s : Nat} {e : TypeId} {f : Nat → Nat → PV} (hd : look st.t d = some (.v (.one (.win id n i m)))) (ho : look st.o id = some (.arr true s e n' f)) (hn : n' = n) (hi : i = 0) (hm : m ≤ n) (hnew : newB id2 st = true)
    (h : HW (ro := ro) P nt c ⟨(d, some (.v (.one (.ref id2 m)))) :: st.t, (id2, some (.arr true s e m f)) :: (id, none) :: st.o⟩ Q) : HW (ro := ro) P nt c st Q := by
  subst hn hi
  obtain ⟨hnm, hno⟩ := newB_spec hnew
  refine hw_put ⟨st.t, (id2, some (.arr true s e m f)) :: (id, none) :: st.o⟩ d (.v (.one (.ref id2 m))) (fun w0 m0 a w hr => ?_) h
  obtain ⟨cc, hold, hrr⟩ := hr
  obtain ⟨c', e1, e2, e3⟩ := hrr.short ho hm hnm hno (hrr.tmps d _ hd)
  have e4 : (HSt.den ⟨st.t, (id2, some (.arr true s e m f)) :: (id, none) :: st.o⟩) = (st.den.setO id none).setO id2 (some (.arr true s e m f)) := by
    unfold HSt.den S.setO
    simp [look_cons]
  exact ⟨c', e1.trans hold, by rw [e4]; exact e2, by rw [e4]; exact e3⟩
theorem hw_rename {c : Code} (d id2 : Nat) {id n n' s : Nat} {e : TypeId} {f : Nat → Nat → PV} (hd : look st.t d = some (.v (.one (.ref id n)))) (ho : look st.o id = some (.arr true s e n' f)) (hn : n' = n) (hnew : newB id2 st = true)
    (h : HW (ro := ro) P nt c ⟨(d, some (.v (.one (.ref id2 n)))) :: st.t, (id2, some (.arr true s e n f)) :: (id, none) :: st.o⟩ Q) : HW (ro := ro) P nt c st Q := by
  subst hn
  obtain ⟨hnm, hno⟩ := newB_spec hnew
  refine hw_put ⟨st.t, (id2, some (.arr true s e n' f)) :: (id, none) :: st.o⟩ d (.v (.one (.ref id2 n'))) (fun w0 m0 a w hr => ?_) h
  obtain ⟨cc, hold, hrr⟩ := hr
  have hu : RepH cc st.den.o (.ref id n') (a.tmps.getD d undef) := hrr.tmps d _ hd
  have hw : RepH cc st.den.o (.win id n' 0 n') (a.tmps.getD d undef) := by
    refine ⟨hu.1, hu.2.1, fun ob s2 e2 n2 ho2 hd2 => ⟨(hu.2.2 _ _ _ _ ho2 hd2).1, fun hk => ?_⟩⟩
    have he := (hu.2.2 _ _ _ _ ho2 hd2).2 hk
    obtain rfl : ob = .arr true s e n' f := Option.some.inj (ho2.symm.trans ho)
    simp only [HObj.dim, Option.some.injEq, Prod.mk.injEq] at hd2
    obtain ⟨rfl, rfl, rfl⟩ := hd2
    obtain ⟨ad, cap, hv, hc1, hc2⟩ := arr_any (hrr.objs _ _ ho2)
    exact ⟨ad, ad, cap, hv, by rw [he, hv]; rfl, by omega, hc1, hc2, fun _ => by cases ad <;> simp [addr_add_zero]⟩
  obtain ⟨c', e1, e2, e3⟩ := hrr.short ho (Nat.le_refl _) hnm hno hw
  have e4 : (HSt.den ⟨st.t, (id2, some (.arr true s e n' f)) :: (id, none) :: st.o⟩) = (st.den.setO id none).setO id2 (some (.arr true s e n' f)) := by
    unfold HSt.den S.setO
    simp [look_cons]
  exact ⟨c', e1.trans hold, by rw [e4]; exact e2, by rw [e4]; exact e3⟩
end
end Go.Hx
end
section
namespace Go.Hx
theorem co_all1H {l : List AS} {k : Nat} (hk : l.length ≤ k) (h : ∀ j, 0 < j → j < k → ¬ l.getD j default = l.getD (j - 1) default) : cmp1 l = l := by
  have := cmp1_pre (Nat.le_refl l.length) fun j h1 h2 => h j h1 (by omega)
  rw [List.take_length] at this
  exact this
theorem co_cutLen {l m : List AS} {k p q : Nat} (hC : CpI l k p q m) (hq : ¬ q < l.length) : (cmp1 l).length = p ∧ m.take p = cmp1 l := by
  have e := hC.pre
  have h1 := hC.ql
  have h2 := hC.len
  have h3 := hC.pq
  rw [show q = l.length by omega, List.take_length] at e
  exact ⟨by rw [← e]; simp; omega, e⟩
theorem co_cutO {l m : List AS} {k p q n a d : Nat} {z : List Value} {e : TypeId} (hC : CpI l k p q m) (hq : ¬ q < l.length) (ha : p ≤ a) (hn : n = p) : CoO (.arr true 1 e n (setZ (lf sC m) a d z)) (.arr true 1 e (cmp1 l).length (lf sC (cmp1 l))) := by
  obtain ⟨h1, h2⟩ := co_cutLen hC hq
  subst hn
  refine ⟨fun h => h, rfl, rfl, h1, fun i j hi hj => CoP.of_eq ?_⟩
  show setZ (lf sC m) a d z i j = lf sC (cmp1 l) i j
  unfold setZ
  rw [if_neg (by omega)]
  simp only [lf, List.getD]
  have e : (cmp1 l)[i]? = m[i]? := by rw [← h2, List.getElem?_take, if_pos hi]
  rw [e]
theorem ref_to {id n m : Nat} (h : n = m) : CoR (.v (.one (.ref id n))) (.v (.one (.ref id m))) := by rw [h]; exact CoR.refl _
end Go.Hx
end
section
namespace Go.Hx
open Go.Proofs
set_option maxRecDepth 100000
theorem cCompactH (l : List AS) : HFun Tryz.prog 85 [.one (.ref 900 l.length)] [(900, .arr true 1 30 l.length (lf sC l))] (.v (.one (.ref 901 (cmp1 l).length))) [(901, .arr true 1 30 (cmp1 l).length (lf sC (cmp1 l)))] [] := by
  refine hfun_of (nt := 61) Tryzok Tryz.func85 rfl rfl (Nat.le_of_ble_eq_true rfl) rfl ?_; refine hw_seq ?_
  refine hw_ba 900 rfl fun hlen => ?_
  refine hw_region (E := TryzE) Tryzok ?_; refine rq rfl rfl rfl rfl rfl ?_; refine rg_nil ?_; show HW _ _ _ _ _; (iterate 2 refine hw_seq ?_); refine hw_region (E := TryzE) Tryzok ?_; (iterate 3 refine rq rfl rfl rfl rfl rfl ?_)
  refine rg_nil ?_; show HW _ _ _ _ _; refine hw_cond _ rfl (fun r0 => ?_) (fun r0 => ?_)
  · skip
    have h0 := r0
    have h0 := of_decide_eq_true h0
    try simp only [Int.toNat_natCast] at h0
    refine hw_seq ?_; refine hw_region (E := TryzE) Tryzok ?_; (iterate 2 refine rq rfl rfl rfl rfl rfl ?_); refine rg_nil ?_; refine hw_rename 2 901 rfl rfl rfl rfl ?_; show HW _ _ _ _ _; refine hw_ret ?_; refine ⟨.inr rfl, ?_⟩
    have he := co_all1H (l := l) (k := l.length) (Nat.le_refl _) (fun j h1 h2 => by omega)
    exact ⟨_, _, rfl, (by (repeat' apply And.intro) <;> first | trivial | exact Nat.le_of_ble_eq_true rfl), ref_to (by rw [he]), ⟨⟨_, rfl, arr_len he (by rw [he])⟩, trivial⟩⟩
  · skip
    have h0 := r0
    have h0 := of_decide_eq_false h0
    try simp only [Int.toNat_natCast] at h0
    refine hw_skip ?_; show HW _ _ _ _ _; (iterate 2 refine hw_seq ?_); refine hw_region (E := TryzE) Tryzok ?_; refine rq rfl rfl rfl rfl rfl ?_; refine rg_nil ?_; show HW _ _ _ _ _; refine hw_block ?_
    refine hw_loopK (ι := Nat) ⟨[(0, some _)], [(900, some _)]⟩ ⟨⟨⟨_, rfl, CoR.refl _⟩, trivial⟩, ⟨⟨_, rfl, CoO.refl _⟩, trivial⟩⟩ (fun k => ⟨[(3, some (vI k))], []⟩) (fun k => 1 ≤ k ∧ k ≤ l.length ∧ ∀ j, 0 < j → j < k → ¬ l.getD j default = l.getD (j - 1) default) (fun k => l.length - k) (1) (⟨Nat.le_refl _, by omega, fun j h1 h2 => by omega⟩) ⟨⟨⟨_, rfl, (by first | exact CoR.refl _ | exact coi (by omega) | exact cob (by simp_all))⟩, trivial⟩, trivial⟩ ?_
    rintro k ⟨hk1, hk, hI⟩
    (iterate 2 refine hw_seq ?_); refine hw_region (E := TryzE) Tryzok ?_; (iterate 4 refine rq rfl rfl rfl rfl rfl ?_); refine rg_nil ?_; show HW _ _ _ _ _; refine hw_cond _ rfl (fun r1 => ?_) (fun r1 => ?_)
    · skip
      have h1 := r1
      have h1 := of_decide_eq_true h1
      try simp only [Int.toNat_natCast] at h1
      refine hw_skip ?_; show HW _ _ _ _ _; refine hw_seq ?_; refine hw_block ?_; refine hw_seq ?_; refine hw_draw (E := TryzE) Tryzok Tryzmixed [0, 1, 2, 3, 4, 5, 6, 7, 8, 9] ?_; (iterate 10 refine rq rfl rfl rfl rfl rfl ?_)
      refine rg_nil ?_; refine ⟨by kernel_rfl, ?_⟩; show HW _ _ _ _ _; refine hw_cond _ rfl (fun r2 => ?_) (fun r2 => ?_)
      · skip
        have h2 := r2
        have h2 := of_decide_eq_true h2
        try simp only [Int.toNat_natCast] at h2
        refine hw_seq ?_; refine hw_region (E := TryzE) Tryzok ?_; (iterate 4 refine rq rfl rfl rfl rfl rfl ?_); refine rg_nil ?_; show HW _ _ _ _ _; (iterate 2 refine hw_seq ?_); refine hw_region (E := TryzE) Tryzok ?_
        refine rq rfl rfl rfl rfl rfl ?_; refine rg_nil ?_; show HW _ _ _ _ _; refine hw_block ?_
        refine hw_loopK (ι := Nat × Nat × List AS) ⟨[(0, some _), (4, some _)], []⟩ ⟨⟨⟨_, rfl, CoR.refl _⟩, ⟨_, rfl, CoR.refl _⟩, trivial⟩, trivial⟩ (fun x => ⟨[(3, some (vI x.1)), (5, some (vI ((x.2.1 : Int) - k)))], [(900, some (.arr true 1 30 l.length (lf sC x.2.2)))]⟩) (fun x => CpI l k x.1 x.2.1 x.2.2) (fun x => l.length - x.2.1) ((k, k + 1, l)) (CpI.start hk1 (by omega) hI (eq_of_i (by assumption) rfl (by omega))) ⟨⟨⟨_, rfl, (by first | exact CoR.refl _ | exact coi (by omega) | exact cob (by simp_all))⟩, ⟨_, rfl, (coi (by first | rfl | (dsimp only; omega)))⟩, trivial⟩, ⟨⟨_, rfl, CoO.refl _⟩, trivial⟩⟩ ?_
        rintro ⟨p, q, m⟩ hC
        have hC0 := hC
        obtain ⟨hml, hkq, hpq, hql, _, _⟩ := hC0
        dsimp only at hC hml hkq hpq hql
        (iterate 2 refine hw_seq ?_); refine hw_region (E := TryzE) Tryzok ?_; (iterate 4 refine rq rfl rfl rfl rfl rfl ?_); refine rg_nil ?_; show HW _ _ _ _ _; refine hw_cond _ rfl (fun r3 => ?_) (fun r3 => ?_)
        · skip
          have h3 := r3
          have h3 := of_decide_eq_true h3
          try simp only [Int.toNat_natCast] at h3
          simp only [less, upTo, Int.toNat_natCast] at h3
          refine hw_skip ?_; show HW _ _ _ _ _; refine hw_seq ?_; refine hw_block ?_; refine hw_seq ?_; refine hw_draw (E := TryzE) Tryzok Tryzmixed [0, 1, 2, 3, 4, 5, 6, 7, 8, 9] ?_; (iterate 10 refine rq rfl rfl rfl rfl rfl ?_)
          refine rg_nil ?_; refine ⟨by kernel_rfl, ?_⟩; show HW _ _ _ _ _; refine hw_cond _ rfl (fun r4 => ?_) (fun r4 => ?_)
          · skip
            have h4 := r4
            have h4 := of_decide_eq_false (not_t h4)
            try simp only [Int.toNat_natCast] at h4
            refine hw_seq ?_; refine hw_region (E := TryzE) Tryzok ?_; (iterate 7 refine rq rfl rfl rfl rfl rfl ?_); refine rs rfl rfl rfl rfl rfl ?_; refine rg_nil ?_; show HW _ _ _ _ _; refine hw_region (E := TryzE) Tryzok ?_
            (iterate 3 refine rq rfl rfl rfl rfl rfl ?_); refine rg_nil ?_; show HW _ _ _ _ _; refine hw_region (E := TryzE) Tryzok ?_; (iterate 3 refine rq rfl rfl rfl rfl rfl ?_); refine rg_nil ?_
            first | (refine ⟨(p + 1, q + 1, m.set p (m.getD q default)), ?_, ?_, ?_⟩
                     · exact hC.keep (by omega) (ne_of_i (by assumption) (by simp only [upTo]; omega) (by simp only [upTo]; omega))
                     · first | omega | (dsimp only; omega)
                     · exact ⟨⟨⟨_, rfl, (coi (by first | rfl | (dsimp only; omega)))⟩, ⟨_, rfl, (coi (by first | rfl | (dsimp only; omega)))⟩, ⟨_, rfl, CoR.refl _⟩, ⟨_, rfl, CoR.refl _⟩, trivial⟩, ⟨⟨_, rfl, (co_setE id hml.symm (by omega) (by dsimp only; omega) (by simp only [upTo]; omega))⟩, trivial⟩⟩)
                  | (refine ⟨(p, q + 1, m), ?_, ?_, ?_⟩
                     · exact hC.skip (by omega) (eq_of_i (by assumption) (by simp only [upTo]; omega) (by simp only [upTo]; omega))
                     · first | omega | (dsimp only; omega)
                     · exact ⟨⟨⟨_, rfl, (coi (by first | rfl | (dsimp only; omega)))⟩, ⟨_, rfl, (coi (by first | rfl | (dsimp only; omega)))⟩, ⟨_, rfl, CoR.refl _⟩, ⟨_, rfl, CoR.refl _⟩, trivial⟩, ⟨⟨_, rfl, CoO.refl _⟩, trivial⟩⟩)
          · skip
            have h4 := r4
            have h4 := of_decide_eq_true (not_f h4)
            try simp only [Int.toNat_natCast] at h4
            refine hw_skip ?_; show HW _ _ _ _ _; refine hw_region (E := TryzE) Tryzok ?_; (iterate 3 refine rq rfl rfl rfl rfl rfl ?_); refine rg_nil ?_
            first | (refine ⟨(p + 1, q + 1, m.set p (m.getD q default)), ?_, ?_, ?_⟩
                     · exact hC.keep (by omega) (ne_of_i (by assumption) (by simp only [upTo]; omega) (by simp only [upTo]; omega))
                     · first | omega | (dsimp only; omega)
                     · exact ⟨⟨⟨_, rfl, (coi (by first | rfl | (dsimp only; omega)))⟩, ⟨_, rfl, (coi (by first | rfl | (dsimp only; omega)))⟩, ⟨_, rfl, CoR.refl _⟩, ⟨_, rfl, CoR.refl _⟩, trivial⟩, ⟨⟨_, rfl, (co_setE id hml.symm (by omega) (by dsimp only; omega) (by simp only [upTo]; omega))⟩, trivial⟩⟩)
                  | (refine ⟨(p, q + 1, m), ?_, ?_, ?_⟩
                     · exact hC.skip (by omega) (eq_of_i (by assumption) (by simp only [upTo]; omega) (by simp only [upTo]; omega))
                     · first | omega | (dsimp only; omega)
                     · exact ⟨⟨⟨_, rfl, (coi (by first | rfl | (dsimp only; omega)))⟩, ⟨_, rfl, (coi (by first | rfl | (dsimp only; omega)))⟩, ⟨_, rfl, CoR.refl _⟩, ⟨_, rfl, CoR.refl _⟩, trivial⟩, ⟨⟨_, rfl, CoO.refl _⟩, trivial⟩⟩)
        · skip
          have h3 := r3
          have h3 := of_decide_eq_false h3
          try simp only [Int.toNat_natCast] at h3
          simp only [less, upTo, Int.toNat_natCast] at h3
          refine hw_exit ?_; show HW _ _ _ _ _; refine hw_seq ?_; refine hw_region (E := TryzE) Tryzok ?_; (iterate 3 refine rq rfl rfl rfl rfl rfl ?_); refine ra 0 true rfl rfl rfl rfl rfl rfl ?_; refine rg_nil ?_
          show HW _ _ _ _ _; refine hw_seq ?_; refine hw_region (E := TryzE) Tryzok ?_; (iterate 4 refine rq rfl rfl rfl rfl rfl ?_); refine rg_nil ?_
          refine hw_short 2 901 rfl rfl rfl rfl (by simp only [less, upTo, Int.toNat_natCast]; omega) rfl ?_; show HW _ _ _ _ _; refine hw_ret ?_; refine ⟨.inr rfl, ?_⟩
          have he := (co_cutLen hC (by omega)).1
          exact ⟨_, _, rfl, (by (repeat' apply And.intro) <;> first | trivial | exact Nat.le_of_ble_eq_true rfl), ref_to (by rw [he]; simp [less, upTo]), ⟨⟨_, rfl, co_cutO hC (by omega) (by simp [upTo]) (by simp [less, upTo])⟩, trivial⟩⟩
      · skip
        have h2 := r2
        have h2 := of_decide_eq_false h2
        try simp only [Int.toNat_natCast] at h2
        refine hw_skip ?_; show HW _ _ _ _ _; refine hw_region (E := TryzE) Tryzok ?_; (iterate 3 refine rq rfl rfl rfl rfl rfl ?_); refine rg_nil ?_; refine ⟨k + 1, ?_, ?_, ?_⟩
        · refine ⟨by omega, by show k + 1 ≤ _; omega, fun j h1 h2 => ?_⟩
          rcases Nat.lt_or_eq_of_le (Nat.le_of_lt_succ h2) with h | h
          · exact hI j h1 h
          · subst h
            exact ne_of_i (by assumption) rfl (by omega)
        · first | omega | (dsimp only; omega)
        · exact ⟨⟨⟨_, rfl, (by first | exact CoR.refl _ | exact coi (by omega) | exact cob (by simp_all))⟩, ⟨_, rfl, CoR.refl _⟩, trivial⟩, ⟨⟨_, rfl, CoO.refl _⟩, trivial⟩⟩
    · skip
      have h1 := r1
      have h1 := of_decide_eq_false h1
      try simp only [Int.toNat_natCast] at h1
      refine hw_exit ?_; show HW _ _ _ _ _; refine hw_seq ?_; refine hw_region (E := TryzE) Tryzok ?_; (iterate 2 refine rq rfl rfl rfl rfl rfl ?_); refine rg_nil ?_; refine hw_rename 2 901 rfl rfl rfl rfl ?_; show HW _ _ _ _ _
      refine hw_ret ?_; refine ⟨.inr rfl, ?_⟩
      have he := co_all1H (l := l) (k := k) (by omega) hI
      exact ⟨_, _, rfl, (by (repeat' apply And.intro) <;> first | trivial | exact Nat.le_of_ble_eq_true rfl), ref_to (by rw [he]), ⟨⟨_, rfl, arr_len he (by rw [he])⟩, trivial⟩⟩
theorem cOrderH (l : List AS) (hl : l.length ≤ 8589934592) : HFun Tryz.prog 63 [.one (.p (asl l))] [] (.v (.one (.ref 901 (ord l).length))) [(901, .arr true 1 30 (ord l).length (lf sC (ord l)))] [] := by
  refine hfun_of (nt := 10) Tryzok Tryz.func63 rfl rfl (Nat.le_of_ble_eq_true rfl) rfl ?_; refine hw_seq ?_; refine hw_region (E := TryzE) Tryzok ?_; refine rq rfl rfl rfl rfl rfl ?_; refine rg_nil ?_; show HW _ _ _ _ _
  refine hw_seq ?_; refine hw_region (E := TryzE) Tryzok ?_; refine rq rfl rfl rfl rfl rfl ?_; refine rg_fcall rfl rfl rfl rfl rfl rfl good27 (clone75 l.length false (lf sC l) (by omega)) (CoHCL.refl _) trivial rfl rfl ?_
  refine rq rfl rfl rfl rfl rfl ?_; refine rg_nil ?_; show HW _ _ _ _ _; refine hw_seq ?_; refine hw_region (E := TryzE) Tryzok ?_; refine rq rfl rfl rfl rfl rfl ?_
  refine rg_fcall rfl rfl rfl rfl rfl rfl good83 (cSort 0 _ l hl) (CoHCL.refl _) ⟨⟨_, rfl, CoO.refl _⟩, trivial⟩ rfl rfl ?_; refine rg_nil ?_; show HW _ _ _ _ _; refine hw_seq ?_; refine hw_region (E := TryzE) Tryzok ?_
  refine rq rfl rfl rfl rfl rfl ?_; refine rg_fcall rfl rfl rfl rfl rfl rfl good85 ((cCompactH (srt l)).swap 900 0) (⟨congrArg (HV.ref 0) (srt_len l).symm, trivial⟩) ⟨⟨_, rfl, arr_len rfl (srt_len l).symm⟩, trivial⟩ rfl rfl ?_
  refine rq rfl rfl rfl rfl rfl ?_; refine rg_nil ?_; show HW _ _ _ _ _; refine hw_ret ?_; refine ⟨.inr rfl, ?_⟩
  exact ⟨_, _, rfl, (by (repeat' apply And.intro) <;> first | trivial | exact Nat.le_of_ble_eq_true rfl), ref_to (by rw [cmp1_srt]), ⟨⟨_, rfl, arr_len (cmp1_srt _).symm (by rw [cmp1_srt])⟩, trivial⟩⟩
theorem cSubsH (s : AS) : HFun Tryz.prog 33 [.one (.p (asC s))] [] (.v (.one (.ref 901 (subsC s).length))) [(901, .arr true 1 30 (subsC s).length (lf sC (subsC s)))] [] := by
  refine hfun_of (nt := 23) Tryzok Tryz.func33 rfl rfl (Nat.le_of_ble_eq_true rfl) rfl ?_; refine hw_seq ?_; refine hw_region (E := TryzE) Tryzok ?_; refine rq rfl rfl rfl rfl rfl ?_; refine rg_nil ?_; show HW _ _ _ _ _
  (iterate 2 refine hw_seq ?_); refine hw_region (E := TryzE) Tryzok ?_; refine rq rfl rfl rfl rfl rfl ?_; refine rc rfl rfl rfl rfl rfl rfl good45 (cSize s) (CoL.refl _) rfl rfl ?_; refine rq rfl rfl rfl rfl rfl ?_
  refine rg_nil ?_; show HW _ _ _ _ _; refine hw_cond _ rfl (fun r0 => ?_) (fun r0 => ?_)
  · skip
    have h0 := r0
    have h0 := of_decide_eq_true h0
    try simp only [Int.toNat_natCast] at h0
    refine hw_seq ?_; refine hw_region (E := TryzE) Tryzok ?_; refine rq rfl rfl rfl rfl rfl ?_; refine rg_nil ?_
    refine hw_adopt 2 901 true 1 30 (lf sC []) (by decide) rfl (CoP.sl rfl (.inr rfl) (fun h => h) (fun i j hi _ => absurd hi (Nat.not_lt_zero i))) (.inr rfl) rfl ?_; show HW _ _ _ _ _; refine hw_ret ?_; refine ⟨.inr rfl, ?_⟩
    exact ⟨_, _, rfl, (by (repeat' apply And.intro) <;> first | trivial | exact Nat.le_of_ble_eq_true rfl), ref_to (by rw [subsC_t h0]; rfl), ⟨⟨_, rfl, arr_len (subsC_t h0) (by rw [subsC_t h0]; rfl)⟩, trivial⟩⟩
  · skip
    have h0 := r0
    have h0 := of_decide_eq_false h0
    try simp only [Int.toNat_natCast] at h0
    refine hw_skip ?_; show HW _ _ _ _ _; refine hw_seq ?_; refine hw_region (E := TryzE) Tryzok ?_; refine rq rfl rfl rfl rfl rfl ?_; refine rm 0 rfl rfl rfl rfl rfl rfl ?_; refine rq rfl rfl rfl rfl rfl ?_; refine rg_nil ?_
    show HW _ _ _ _ _; (iterate 2 refine hw_seq ?_); refine hw_region (E := TryzE) Tryzok ?_; (iterate 2 refine rq rfl rfl rfl rfl rfl ?_); refine rg_nil ?_; show HW _ _ _ _ _; refine hw_block ?_
    refine hw_loopK (ι := List AS × AS) ⟨[(0, some _)], []⟩ ⟨⟨⟨_, rfl, CoR.refl _⟩, trivial⟩, trivial⟩ (fun y => ⟨[(3, some (.v (.one (.ref 0 y.1.length)))), (4, some (vA y.2))], [(0, some (.arr true 1 30 y.1.length (lf sC y.1)))]⟩) (fun y => DownI s y) (fun y => y.2.toNat) (([s], s)) (down_zero s) ⟨⟨⟨_, rfl, (by first | exact CoR.refl _ | exact coi (by omega) | exact cob (by simp_all))⟩, ⟨_, rfl, (by first | exact CoR.refl _ | exact coi (by omega) | exact cob (by simp_all))⟩, trivial⟩, ⟨⟨_, rfl, (arr_lit1 (CoP.refl _))⟩, trivial⟩⟩ ?_
    rintro y hy
    have hlen := hy.2.1
    have hsl := s.isLt
    (iterate 2 refine hw_seq ?_); refine hw_region (E := TryzE) Tryzok ?_; (iterate 2 refine rq rfl rfl rfl rfl rfl ?_); refine rg_nil ?_; show HW _ _ _ _ _; refine hw_cond _ rfl (fun r1 => ?_) (fun r1 => ?_)
    · skip
      have h1 := r1
      have h1 := of_decide_eq_false (not_t h1)
      try simp only [Int.toNat_natCast] at h1
      have hne : y.2 ≠ 0 := fun e => h1 (by rw [e]; rfl)
      refine hw_skip ?_; show HW _ _ _ _ _; refine hw_block ?_; refine hw_seq ?_; refine hw_region (E := TryzE) Tryzok ?_; refine rq rfl rfl rfl rfl rfl ?_; refine rq rfl rfl rfl rfl rfl ?_ (hp := (pred_pre hne))
      (iterate 3 refine rq rfl rfl rfl rfl rfl ?_); refine rg_nil ?_; show HW _ _ _ _ _; refine hw_region (E := TryzE) Tryzok ?_; (iterate 2 refine rq rfl rfl rfl rfl rfl ?_); refine rm 1 rfl rfl rfl rfl rfl rfl ?_
      refine ra 2 true rfl rfl rfl rfl rfl rfl ?_; refine rq rfl rfl rfl rfl rfl ?_; refine rg_nil ?_; refine ⟨(y.1 ++ [(y.2 - 1) &&& s], (y.2 - 1) &&& s), ?_, ?_, ?_⟩
      · exact down_next hy hne
      · exact pred_lt hne
      · exact ⟨⟨⟨_, rfl, (ref_app rfl)⟩, ⟨_, rfl, (cor_i (pred_and hne))⟩, ⟨_, rfl, CoR.refl _⟩, trivial⟩, ⟨⟨_, rfl, (arr_app1 rfl (CoP.of_eq (by rw [pred_and hne]; rfl)))⟩, trivial⟩⟩
    · skip
      have h1 := r1
      have h1 := of_decide_eq_true (not_f h1)
      try simp only [Int.toNat_natCast] at h1
      have hz : y.2 = 0 := asI_inj.1 h1
      refine hw_exit ?_; show HW _ _ _ _ _; refine hw_seq ?_; refine hw_freeze 3 rfl rfl rfl ?_; refine hw_region (E := TryzE) Tryzok ?_; refine rq rfl rfl rfl rfl rfl ?_
      refine rg_fcall rfl rfl rfl rfl rfl rfl good63 (cOrderH y.1 (by omega)) (CoHCL.refl _) trivial rfl rfl ?_; refine rq rfl rfl rfl rfl rfl ?_; refine rg_nil ?_; show HW _ _ _ _ _; refine hw_ret ?_; refine ⟨.inr rfl, ?_⟩
      have he := (down_end hy hz).trans (subsC_f h0).symm
      exact ⟨_, _, rfl, (by (repeat' apply And.intro) <;> first | trivial | exact Nat.le_of_ble_eq_true rfl), ref_to (by rw [he]), ⟨⟨_, rfl, arr_len he.symm (by rw [he])⟩, trivial⟩⟩
end Go.Hx
end
section
namespace Go.Hx
def vioE (l : List Fd) (p : AS) : Int := if vErr 16 l = 0 then (if 8 < bsz p then 3 else if p >>> 16 = 0 then 0 else 1) else vErr 16 l
def vioR (l : List Fd) (p : AS) : Fd := if vioE l p = 0 then violF l p else ⟨0, 0⟩
def vioRB (l : List Fd) (p : AS) : Bool := decide (vioE l p = 0) && violB l p
theorem pc0_co {f : Fd} (h : f = ⟨0, 0⟩) : CoC (.agg [rawP (.int .u32 0), rawP (.int .u32 0)]) f.pc := CoC.of_eq (by rw [h]; rfl)
theorem pc_co {a b : Fd} (h : a = b) : CoC a.pc b.pc := CoC.of_eq (by rw [h])
theorem vioE_1 {l : List Fd} {p : AS} (h : ¬ vErr 16 l = 0) : vioE l p = vErr 16 l ∧ vioR l p = ⟨0, 0⟩ ∧ vioRB l p = false := by
  have e : vioE l p = vErr 16 l := if_neg h
  unfold vioR vioRB
  rw [e]
  exact ⟨rfl, if_neg h, by rw [decide_eq_false h]; rfl⟩
theorem vioE_2 {l : List Fd} {p : AS} (h : vErr 16 l = 0) (h2 : (8 : Int) < bsz p) : vioE l p = 3 ∧ vioR l p = ⟨0, 0⟩ ∧ vioRB l p = false := by
  have e : vioE l p = 3 := by unfold vioE; rw [if_pos h, if_pos (by omega)]
  unfold vioR vioRB
  rw [e]
  exact ⟨rfl, rfl, rfl⟩
theorem shr_zero {p : AS} {n : Nat} : (asI p).fdiv (2 ^ (min n 32)) = 0 ↔ p >>> n = 0 := by
  rw [bShr, show (0 : Int) = asI 0 from rfl, asI_inj]
theorem vioE_3 {l : List Fd} {p : AS} (h : vErr 16 l = 0) (h2 : ¬ (8 : Int) < bsz p) (h3 : ¬ (asI p).fdiv (2 ^ (min 16 32)) = 0) : vioE l p = 1 ∧ vioR l p = ⟨0, 0⟩ ∧ vioRB l p = false := by
  rw [shr_zero] at h3
  have e : vioE l p = 1 := by unfold vioE; rw [if_pos h, if_neg (by omega), if_neg h3]
  unfold vioR vioRB
  rw [e]
  exact ⟨rfl, rfl, rfl⟩
theorem vioE_4 {l : List Fd} {p : AS} (h : vErr 16 l = 0) (h2 : ¬ (8 : Int) < bsz p) (h3 : (asI p).fdiv (2 ^ (min 16 32)) = 0) : vioE l p = 0 ∧ vioR l p = violF l p ∧ vioRB l p = violB l p := by
  rw [shr_zero] at h3
  have e : vioE l p = 0 := by unfold vioE; rw [if_pos h, if_neg (by omega), if_pos h3]
  unfold vioR vioRB
  rw [e]
  exact ⟨rfl, rfl, rfl⟩
def bcP (n : Int) (l : List Fd) (f : Fd) : Bool := decide (f.rhs &&& ~~~f.lhs ≠ 0) && decide (clo l f.lhs ≠ fullI n)
def bcS (n : Int) (l : List Fd) : Bool := decide (vErr n l = 0) && !l.any (bcP n l)
def subF (n : Int) (l : List Fd) : List AS := if errS n l 8 = 0 then (subsC (fullI n)).filter fun s => !violB l s else []
theorem subF_t {n : Int} {l : List Fd} (h : errS n l 8 = 0) : subF n l = (subsC (fullI n)).filter fun s => !violB l s := if_pos h
theorem subF_f {n : Int} {l : List Fd} (h : ¬ errS n l 8 = 0) : subF n l = [] := if_neg h
theorem errS_ok {n m : Int} {l : List Fd} (h : errS n l m = 0) : vErr n l = 0 ∧ n ≤ m := by
  unfold errS at h
  split at h
  · rename_i hv
    split at h
    · cases h
    · exact ⟨hv, by omega⟩
  · rename_i hv
    exact absurd h hv
theorem subF_len (n : Int) (l : List Fd) : (subF n l).length ≤ 4294967296 := by
  unfold subF
  have := subsC_len (fullI n)
  split
  · exact Nat.le_trans (List.length_filter_le _ _) this
  · simp
end Go.Hx
end
section
namespace Go.Hx
open Go.Proofs
set_option maxRecDepth 100000
theorem good16 : goodFn Tryz.prog 16 := ⟨Tryz.f16, Tryz.func16, by kernel_rfl, by kernel_rfl⟩
theorem cVio (l : List Fd) (p : AS) : HPure Tryz.prog 16 [pP (fdl l), pA p] (prOf [(vioR l p).pc, pB (vioRB l p), pI (vioE l p)]) := by
  refine hpure_of (nt := 32) Tryzok Tryz.func16 rfl rfl (Nat.le_of_ble_eq_true rfl) ?_; refine hw_seq ?_; refine hw_region (E := TryzE) Tryzok ?_; refine rm 0 rfl rfl rfl rfl rfl rfl ?_; (iterate 2 refine rq rfl rfl rfl rfl rfl ?_)
  refine rg_nil ?_; show HW _ _ _ _ _; (iterate 2 refine hw_seq ?_); refine hw_region (E := TryzE) Tryzok ?_; refine rq rfl rfl rfl rfl rfl ?_; refine rc rfl rfl rfl rfl rfl rfl good44 (cValid 16 l) (CoL.refl _) rfl rfl ?_
  refine rq rfl rfl rfl rfl rfl ?_; refine rg_nil ?_; show HW _ _ _ _ _; refine hw_seq ?_; refine hw_region (E := TryzE) Tryzok ?_; (iterate 2 refine rq rfl rfl rfl rfl rfl ?_); refine rg_nil ?_; show HW _ _ _ _ _
  refine hw_cond _ rfl (fun r0 => ?_) (fun r0 => ?_)
  · skip
    have h0 := r0
    have h0 := of_decide_eq_false (not_t h0)
    try simp only [Int.toNat_natCast] at h0
    refine hw_seq ?_; refine hw_region (E := TryzE) Tryzok ?_; (iterate 2 refine rq rfl rfl rfl rfl rfl ?_); refine rs rfl rfl rfl rfl rfl ?_; (iterate 2 refine rq rfl rfl rfl rfl rfl ?_); refine rg_nil ?_; show HW _ _ _ _ _
    refine hw_ret ?_; refine ⟨.inr rfl, ?_⟩
    have he := vioE_1 (p := p) h0
    exact ⟨_, _, _, _, rfl, (by (repeat' apply And.intro) <;> first | trivial | exact Nat.le_of_ble_eq_true rfl | rfl), rfl, (by (repeat' apply And.intro) <;> first | trivial | exact Nat.le_of_ble_eq_true rfl | rfl), ⟨pc0_co he.2.1, ccb he.2.2.symm, cci he.1.symm, trivial⟩⟩
  · skip
    have h0 := r0
    have h0 := of_decide_eq_true (not_f h0)
    try simp only [Int.toNat_natCast] at h0
    refine hw_skip ?_; show HW _ _ _ _ _; (iterate 2 refine hw_seq ?_); refine hw_region (E := TryzE) Tryzok ?_; refine rq rfl rfl rfl rfl rfl ?_; refine rc rfl rfl rfl rfl rfl rfl good45 (cSize p) (CoL.refl _) rfl rfl ?_
    refine rq rfl rfl rfl rfl rfl ?_; refine rg_nil ?_; show HW _ _ _ _ _; refine hw_cond _ rfl (fun r1 => ?_) (fun r1 => ?_)
    · skip
      have h1 := r1
      have h1 := of_decide_eq_true h1
      try simp only [Int.toNat_natCast] at h1
      refine hw_seq ?_; refine hw_region (E := TryzE) Tryzok ?_; refine rq rfl rfl rfl rfl rfl ?_; refine rs rfl rfl rfl rfl rfl ?_; (iterate 2 refine rq rfl rfl rfl rfl rfl ?_); refine rg_nil ?_; show HW _ _ _ _ _; refine hw_ret ?_
      refine ⟨.inr rfl, ?_⟩
      have he := vioE_2 h0 h1
      exact ⟨_, _, _, _, rfl, (by (repeat' apply And.intro) <;> first | trivial | exact Nat.le_of_ble_eq_true rfl | rfl), rfl, (by (repeat' apply And.intro) <;> first | trivial | exact Nat.le_of_ble_eq_true rfl | rfl), ⟨pc0_co he.2.1, ccb he.2.2.symm, cci he.1.symm, trivial⟩⟩
    · skip
      have h1 := r1
      have h1 := of_decide_eq_false h1
      try simp only [Int.toNat_natCast] at h1
      refine hw_skip ?_; show HW _ _ _ _ _; (iterate 2 refine hw_seq ?_); refine hw_region (E := TryzE) Tryzok ?_; (iterate 3 refine rq rfl rfl rfl rfl rfl ?_); refine rg_nil ?_; show HW _ _ _ _ _
      refine hw_cond _ rfl (fun r2 => ?_) (fun r2 => ?_)
      · skip
        have h2 := r2
        have h2 := of_decide_eq_false (not_t h2)
        try simp only [Int.toNat_natCast] at h2
        refine hw_seq ?_; refine hw_region (E := TryzE) Tryzok ?_; refine rq rfl rfl rfl rfl rfl ?_; refine rs rfl rfl rfl rfl rfl ?_; (iterate 2 refine rq rfl rfl rfl rfl rfl ?_); refine rg_nil ?_; show HW _ _ _ _ _
        refine hw_ret ?_; refine ⟨.inr rfl, ?_⟩
        have he := vioE_3 h0 h1 h2
        exact ⟨_, _, _, _, rfl, (by (repeat' apply And.intro) <;> first | trivial | exact Nat.le_of_ble_eq_true rfl | rfl), rfl, (by (repeat' apply And.intro) <;> first | trivial | exact Nat.le_of_ble_eq_true rfl | rfl), ⟨pc0_co he.2.1, ccb he.2.2.symm, cci he.1.symm, trivial⟩⟩
      · skip
        have h2 := r2
        have h2 := of_decide_eq_true (not_f h2)
        try simp only [Int.toNat_natCast] at h2
        refine hw_skip ?_; show HW _ _ _ _ _; refine hw_seq ?_; refine hw_region (E := TryzE) Tryzok ?_; (iterate 2 refine rq rfl rfl rfl rfl rfl ?_); refine rc rfl rfl rfl rfl rfl rfl good36 (cViol l p) (CoL.refl _) rfl rfl ?_
        (iterate 3 refine rq rfl rfl rfl rfl rfl ?_); refine rm 1 rfl rfl rfl rfl rfl rfl ?_; refine rs rfl rfl rfl rfl rfl ?_; refine rq rfl rfl rfl rfl rfl ?_; refine rg_nil ?_; show HW _ _ _ _ _; refine hw_seq ?_
        refine hw_region (E := TryzE) Tryzok ?_; (iterate 2 refine rq rfl rfl rfl rfl rfl ?_); refine rs rfl rfl rfl rfl rfl ?_; (iterate 2 refine rq rfl rfl rfl rfl rfl ?_); refine rg_nil ?_; show HW _ _ _ _ _; refine hw_ret ?_
        refine ⟨.inr rfl, ?_⟩
        have he := vioE_4 h0 h1 h2
        exact ⟨_, _, _, _, rfl, (by (repeat' apply And.intro) <;> first | trivial | exact Nat.le_of_ble_eq_true rfl | rfl), rfl, (by (repeat' apply And.intro) <;> first | trivial | exact Nat.le_of_ble_eq_true rfl | rfl), ⟨pc_co he.2.1.symm, ccb he.2.2.symm, cci he.1.symm, trivial⟩⟩
theorem good35 : goodFn Tryz.prog 35 := ⟨Tryz.f35, Tryz.func35, by kernel_rfl, by kernel_rfl⟩
theorem cBSubs1 (s : AS) (l : List Fd) : HPure Tryz.prog 35 [pA s, pP (bx (fdl l))] (prOf [pB (violB l s)]) := by
  refine hpure_of (nt := 13) Tryzok Tryz.func35 rfl rfl (Nat.le_of_ble_eq_true rfl) ?_; refine hw_seq ?_; refine hw_region (E := TryzE) Tryzok ?_; refine rq rfl rfl rfl rfl rfl ?_; refine rg_nil ?_; show HW _ _ _ _ _
  refine hw_seq ?_; refine hw_region (E := TryzE) Tryzok ?_; (iterate 2 refine rq rfl rfl rfl rfl rfl ?_); refine rc rfl rfl rfl rfl rfl rfl good36 (cViol l s) (CoL.refl _) rfl rfl ?_; (iterate 3 refine rq rfl rfl rfl rfl rfl ?_)
  refine rm 0 rfl rfl rfl rfl rfl rfl ?_; refine rs rfl rfl rfl rfl rfl ?_; refine rq rfl rfl rfl rfl rfl ?_; refine rg_nil ?_; show HW _ _ _ _ _; refine hw_seq ?_; refine hw_region (E := TryzE) Tryzok ?_
  (iterate 2 refine rq rfl rfl rfl rfl rfl ?_); refine rg_nil ?_; show HW _ _ _ _ _; refine hw_ret ?_; refine ⟨.inr rfl, ?_⟩
  exact ⟨_, _, _, _, rfl, (by (repeat' apply And.intro) <;> first | trivial | exact Nat.le_of_ble_eq_true rfl | rfl), rfl, (by (repeat' apply And.intro) <;> first | trivial | exact Nat.le_of_ble_eq_true rfl | rfl), CoL.refl _⟩
theorem good10 : goodFn Tryz.prog 10 := ⟨Tryz.f10, Tryz.func10, by kernel_rfl, by kernel_rfl⟩
theorem cBSubs (n : Int) (l : List Fd) : HPure Tryz.prog 10 [pI n, pP (fdl l)] (prOf [pP (asl (subF n l)), pI (errS n l 8)]) := by
  refine hpure_of (nt := 18) Tryzok Tryz.func10 rfl rfl (Nat.le_of_ble_eq_true rfl) ?_; refine hw_seq ?_; refine hw_region (E := TryzE) Tryzok ?_; refine rm 2 rfl rfl rfl rfl rfl rfl ?_; (iterate 2 refine rq rfl rfl rfl rfl rfl ?_)
  refine rg_nil ?_; show HW _ _ _ _ _; (iterate 2 refine hw_seq ?_); refine hw_region (E := TryzE) Tryzok ?_; (iterate 2 refine rq rfl rfl rfl rfl rfl ?_); refine rc rfl rfl rfl rfl rfl rfl good31 (cLim n l) (CoL.refl _) rfl rfl ?_
  refine rq rfl rfl rfl rfl rfl ?_; refine rg_nil ?_; show HW _ _ _ _ _; refine hw_seq ?_; refine hw_region (E := TryzE) Tryzok ?_; (iterate 2 refine rq rfl rfl rfl rfl rfl ?_); refine rg_nil ?_; show HW _ _ _ _ _
  refine hw_cond _ rfl (fun r0 => ?_) (fun r0 => ?_)
  · skip
    have h0 := r0
    have h0 := of_decide_eq_false (not_t h0)
    try simp only [Int.toNat_natCast] at h0
    refine hw_seq ?_; refine hw_region (E := TryzE) Tryzok ?_; (iterate 3 refine rq rfl rfl rfl rfl rfl ?_); refine rg_nil ?_; show HW _ _ _ _ _; refine hw_ret ?_; refine ⟨.inr rfl, ?_⟩
    exact ⟨_, _, _, _, rfl, (by (repeat' apply And.intro) <;> first | trivial | exact Nat.le_of_ble_eq_true rfl | rfl), rfl, (by (repeat' apply And.intro) <;> first | trivial | exact Nat.le_of_ble_eq_true rfl | rfl), ⟨CoC.one (nilS (subF_f h0)), CoC.refl _, trivial⟩⟩
  · skip
    have h0 := r0
    have h0 := of_decide_eq_true (not_f h0)
    try simp only [Int.toNat_natCast] at h0
    refine hw_skip ?_; show HW _ _ _ _ _; refine hw_seq ?_
    have hv := vErr_ok (errS_ok h0).1
    refine hw_freeze_box 3 rfl rfl rfl ?_; refine hw_region (E := TryzE) Tryzok ?_; refine rq rfl rfl rfl rfl rfl ?_; refine rc rfl rfl rfl rfl rfl rfl good34 (cUniv n hv.1 hv.2.1) (CoL.refl _) rfl rfl ?_
    refine rg_fcall rfl rfl rfl rfl rfl rfl good33 (cSubsH (fullI n)) (CoHCL.refl _) trivial rfl rfl ?_; refine rq rfl rfl rfl rfl rfl ?_
    refine rg_fcall rfl rfl rfl rfl rfl rfl good32 ((cDelF (subsC (fullI n)) 35 1 (fun i => [bx (fdl l)].getD i .any) (violB l) good35 (fun s => cBSubs1 s l)).swap 900 901) (CoHCL.refl _) ⟨⟨_, rfl, CoO.refl _⟩, trivial⟩ rfl rfl ?_
    (iterate 2 refine rq rfl rfl rfl rfl rfl ?_); refine rg_nil ?_; show HW _ _ _ _ _; refine hw_ret ?_; refine ⟨.inr rfl, ?_⟩
    exact ⟨_, _, _, _, rfl, (by (repeat' apply And.intro) <;> first | trivial | exact Nat.le_of_ble_eq_true rfl | rfl), rfl, (by (repeat' apply And.intro) <;> first | trivial | exact Nat.le_of_ble_eq_true rfl | rfl), ⟨CoC.one (CoP.of_eq (by rw [subF_t h0])), cci h0.symm, trivial⟩⟩
end Go.Hx
end
section
namespace Go.Hx
def moreS (l : List Fd) (p z : AS) : AS := (p &&& clo l (z &&& p)) &&& ~~~z
def moreB (l : List Fd) (z p : AS) : Bool := decide (moreS l p z ≠ 0)
def folF (l : List Fd) (ps : List AS) : Nat → AS → AS
  | 0, z => z
  | n + 1, z => match ps.find? (moreB l z) with
    | none => z
    | some p => folF l ps n (z ||| moreS l p z)
def kept (l : List Fd) (ps : List AS) (z : AS) : AS := folF l ps 4294967297 z
def presB (l : List Fd) (ps : List AS) (f : Fd) : Bool := decide (sub f.rhs (kept l ps f.lhs))
theorem more_v (l : List Fd) (p z : AS) : bitV .andNot .u32 (bitV .and .u32 (asI p) (asI (clo l (z &&& p)))) (asI z) = asI (moreS l p z) := by rw [bAnd, bNot]; rfl
theorem moreB_v {l : List Fd} {p z : AS} : (!decide (asI (moreS l p z) = 0)) = moreB l z p := by
  unfold moreB
  rw [show (0 : Int) = asI 0 from rfl, asI_eq]
  simp
theorem or_lt {z m : AS} (h : m &&& ~~~z = m) (h0 : m ≠ 0) : z.toNat < (z ||| m).toNat := by
  have hs : sub z (z ||| m) := sub_bit.2 fun i _ hi => by rw [BitVec.getLsbD_or, hi]; rfl
  have hle := subLe hs
  rcases Nat.lt_or_eq_of_le hle with h1 | h1
  · exact h1
  · exfalso
    apply h0
    have e : z = z ||| m := BitVec.eq_of_toNat_eq h1
    apply BitVec.eq_of_getLsbD_eq
    intro i hi
    have e1 := congrArg (fun s : AS => s.getLsbD i) e
    have e2 := congrArg (fun s : AS => s.getLsbD i) h
    simp only [BitVec.getLsbD_or, BitVec.getLsbD_and, BitVec.getLsbD_not] at e1 e2
    have e3 : (0 : AS).getLsbD i = false := by simp
    rw [e3]
    rw [decide_eq_true hi] at e2
    clear h h0 hs hle h1 e
    revert e1 e2
    cases z.getLsbD i <;> cases m.getLsbD i <;> simp
theorem moreS_lt {l : List Fd} {p z : AS} (h : moreB l z p = true) : z.toNat < (z ||| moreS l p z).toNat := by
  refine or_lt ?_ (of_decide_eq_true h)
  unfold moreS
  rw [BitVec.and_assoc, BitVec.and_self]
def FolI (l : List Fd) (ps : List AS) (z0 : AS) (x : Nat × List Nat × AS) : Prop := folF l ps x.1 x.2.2 = kept l ps z0 ∧ 4294967296 < x.1 + x.2.2.toNat ∧ x.2.1.length + x.1 = 4294967297
theorem fol_zero (l : List Fd) (ps : List AS) (z0 : AS) : FolI l ps z0 (4294967297, [], z0) := by
  refine ⟨rfl, ?_, ?_⟩
  · dsimp only; omega
  · dsimp only; rw [List.length_nil]
theorem fol_pos {l : List Fd} {ps : List AS} {z0 : AS} {x : Nat × List Nat × AS} (h : FolI l ps z0 x) : 0 < x.1 := by
  have := h.2.1
  have := x.2.2.isLt
  omega
theorem fol_end {l : List Fd} {ps : List AS} {z0 : AS} {x : Nat × List Nat × AS} (h : FolI l ps z0 x) (hi : idx (moreB l x.2.2) ps < 0) : x.2.2 = kept l ps z0 := by
  have hp := fol_pos h
  rw [← h.1]
  obtain ⟨n, hn⟩ : ∃ n, x.1 = n + 1 := ⟨x.1 - 1, by omega⟩
  rw [hn]
  unfold folF
  have : ps.find? (moreB l x.2.2) = none := by
    have hm : idx (moreB l x.2.2) ps = -1 := by
      by_cases h : idx (moreB l x.2.2) ps = -1
      · exact h
      · obtain ⟨i, h1, _⟩ := idx_some h
        omega
    exact find_f (idx_none hm)
  rw [this]
theorem fol_next {l : List Fd} {ps : List AS} {z0 : AS} {x : Nat × List Nat × AS} {i : Nat} (h : FolI l ps z0 x) (hi : i < ps.length) (hv : moreB l x.2.2 (ps.getD i default) = true) (hj : ∀ j, j < i → moreB l x.2.2 (ps.getD j default) = false) :
    FolI l ps z0 (x.1 - 1, x.2.1 ++ [i], x.2.2 ||| moreS l (ps.getD i default) x.2.2) := by
  have hp := fol_pos h
  have hlt := moreS_lt hv
  obtain ⟨h1, h2, h3⟩ := h
  obtain ⟨n, hn⟩ : ∃ n, x.1 = n + 1 := ⟨x.1 - 1, by omega⟩
  refine ⟨?_, by dsimp only; omega, ?_⟩
  · rw [← h1, hn]
    have : ps.find? (moreB l x.2.2) = some (ps.getD i default) := find_t hi hj hv
    show folF l ps n _ = _
    conv => rhs; unfold folF
    rw [this]
  · dsimp only
    rw [List.length_append, List.length_singleton]
    omega
def lostT (l : List Fd) (ps : List AS) (i : Nat) : List Nat := (List.range i).filter fun j => !presB l ps (l.getD j default)
def allP (l : List Fd) (ps : List AS) : Bool := (List.range l.length).all fun j => presB l ps (l.getD j default)
theorem lostT_t {l : List Fd} {ps : List AS} {i : Nat} (h : presB l ps (l.getD i default) = false) : lostT l ps (i + 1) = lostT l ps i ++ [i] := by
  unfold lostT
  rw [List.range_succ, List.filter_append]
  simp only [List.filter_cons, h, Bool.not_false, Bool.not_true, if_true, List.filter_nil, List.append_nil, Bool.false_eq_true, if_false]
theorem lostT_f {l : List Fd} {ps : List AS} {i : Nat} (h : presB l ps (l.getD i default) = true) : lostT l ps (i + 1) = lostT l ps i := by
  unfold lostT
  rw [List.range_succ, List.filter_append]
  simp only [List.filter_cons, h, Bool.not_false, Bool.not_true, if_true, List.filter_nil, List.append_nil, Bool.false_eq_true, if_false]
theorem lostT_len (l : List Fd) (ps : List AS) (i : Nat) : (lostT l ps i).length ≤ i := Nat.le_trans (List.length_filter_le _ _) (by rw [List.length_range]; exact Nat.le_refl _)
theorem all_lost {l : List Fd} {ps : List AS} : decide (((lostT l ps l.length).length : Int) = 0) = allP l ps := by
  unfold lostT allP
  rw [Bool.eq_iff_iff, decide_eq_true_iff, List.all_eq_true]
  constructor
  · intro h x hx
    have h0 : ((List.range l.length).filter fun j => !presB l ps (l.getD j default)) = [] := List.eq_nil_of_length_eq_zero (by omega)
    rw [List.filter_eq_nil_iff] at h0
    have := h0 x hx
    simpa using this
  · intro h
    rw [List.filter_eq_nil_iff.2 fun x hx => (by rw [h x hx]; decide)]
    rfl
theorem pres_v {l : List Fd} {ps : List AS} {f : Fd} : decide (bitV .andNot .u32 (asI f.rhs) (asI (kept l ps f.lhs)) = 0) = presB l ps f := decide_eq_decide.2 sub_iff_not
theorem fol_ren (l : List Fd) : HV.clo 91 2 (fun i => [HV.p (bx (fdl l)), .ptr 1 0].getD i (.p .any)) = HV.clo 91 2 (fun i => ([HV.p (bx (fdl l)), .ptr 1000 0].getD i (.p .any)).ren (swp 1000 1)) :=
  congrArg (HV.clo 91 2) (funext fun i => match i with | 0 => rfl | 1 => rfl | n + 2 => rfl)
end Go.Hx
end
