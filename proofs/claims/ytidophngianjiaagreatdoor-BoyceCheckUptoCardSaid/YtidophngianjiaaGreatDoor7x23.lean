/- A part of the proof: Hx24 Cs17 V15 Cs18 V16 Cs19 V17. -/
import Derived.Test.YtidophngianjiaaGreatDoor7x16
import Derived.Test.YtidophngianjiaaGreatDoor7x22
set_option linter.all false
section
namespace Go.Hx
open Go.RowKit
section
variable {w0 : World} {nt : Nat} {c : Ctx} {s : S} {a : Act} {w : World}
theorem ar.short (h : ar w0 nt c s a w) {id id' sz n m : Nat} {el : TypeId} {f : Nat → Nat → PV} (ho : s.o id = some (.arr true sz el n f)) (hm : m ≤ n) (hnm : NM s id') (hno : s.o id' = none) {u : Value} (hu : bm c s.o (.win id n 0 m) u) :
 ∃ c', c'.old = c.old ∧ ar w0 nt c' ((s.setO id none).setO id' (some (.arr true sz el m f))) a w ∧ av c' ((s.setO id none).setO id' (some (.arr true sz el m f))).o (.v (.one (.ref id' m))) u := by
 have hne : id ≠ id' := fun e => by rw [← e, ho] at hno; cases hno
 obtain ⟨ad, ad', cap, q1, q2, q3, q4, q5, q6⟩ := uf hu ho rfl
 obtain ⟨h0, h1, h5⟩ := h.objs id _ ho
 have hold : ∀ k ob, ((s.setO id none).setO id' (some (.arr true sz el m f))).o k = some ob → k ≠ id' → s.o k = some ob ∧ k ≠ id := fun k ob hk hk' => by
  simp only [S.setO, if_neg hk'] at hk
  by_cases hki : k = id
  · subst hki; simp at hk
  · rw [if_neg hki] at hk; exact ⟨hk, hki⟩
 obtain ⟨bk, hbk, hok⟩ : ∃ bk : Nat → Prop, (∀ b, bk b → c.blk id b) ∧ ∀ c' : Ctx, c'.imm = c.imm → c'.own id' = u → c'.blk id' = bk → ∀ o' : b8, da 0 c' o' w id' (.arr true sz el m f) := by
  rcases h5 with ⟨h6, xs, h2, h4⟩ | ⟨h6 | h6, h7, h8⟩
  · obtain ⟨hxl, hrow⟩ := h2
    rcases hrow with ⟨hv0, hz⟩ | ⟨g, cap', cur, hown, hbase, hheap, hnc, hcm, hcs, htake⟩
    · rw [hv0] at q1
      simp only [Value.slice.injEq] at q1
      obtain ⟨rfl, _, rfl⟩ := q1
      obtain rfl : n = 0 := by omega
      obtain rfl : m = 0 := by omega
      refine ⟨noB, fun b hb => hb.elim, fun c' e1 e2 e3 o' => ⟨h0, Nat.zero_le _, .inr ⟨.inr rfl, e3, ?_⟩⟩⟩
      rw [e2, q2]
      exact ⟨ad', 0, rfl, Nat.le_refl _, Nat.zero_le _, fun _ => rfl, fun h => absurd h (Nat.lt_irrefl 0)⟩
    · rw [hown] at q1
      simp only [Value.slice.injEq, true_and] at q1
      obtain ⟨rfl, rfl⟩ := q1
      by_cases hcap : cap' = 0
      · subst hcap
        obtain rfl : m = 0 := by omega
        refine ⟨noB, fun b hb => hb.elim, fun c' e1 e2 e3 o' => ⟨h0, Nat.zero_le _, .inr ⟨.inr rfl, e3, ?_⟩⟩⟩
        rw [e2, q2]
        exact ⟨ad', 0, rfl, Nat.le_refl _, Nat.zero_le _, fun _ => rfl, fun h => absurd h (Nat.lt_irrefl 0)⟩
      · obtain rfl := q6 (by omega)
        simp only [Option.map_some, cn, Nat.zero_mul, Nat.add_zero, Nat.sub_zero] at q2
        have hmul : m * sz ≤ n * sz := Nat.mul_le_mul_right _ hm
        refine ⟨fy u, fun b hb => by rw [h6, hown]; rw [q2] at hb; exact hb, fun c' e1 e2 e3 o' => ⟨h0, Nat.le_trans hm h1, .inl ⟨by rw [e2, e3], xs.take (m * sz), ⟨by rw [List.length_take, hxl, Nat.min_eq_left hmul], .inr ⟨g, cap', cur, by rw [e2, q2], hbase, hheap, by omega, hcm, hcs, ?_⟩⟩, fun i j hi hj => ?_⟩⟩⟩
        · rw [← htake, List.take_take, Nat.min_eq_left hmul]
        · obtain ⟨x, hx, hr⟩ := h4 i j (by omega) hj
          refine ⟨x, ?_, by rw [e1]; exact hr⟩
          rw [List.getElem?_take, if_pos (v7 hi hj)]
          exact hx
  · cases h6
  · subst h6
    obtain rfl : m = 0 := by omega
    refine ⟨noB, fun b hb => hb.elim, fun c' e1 e2 e3 o' => ⟨h0, Nat.zero_le _, .inr ⟨.inr rfl, e3, ?_⟩⟩⟩
    obtain ⟨ad2, cap2, r1, r2, r3, r4, _⟩ := h8
    rw [q1] at r1
    simp only [Value.slice.injEq, true_and] at r1
    obtain ⟨rfl, rfl⟩ := r1
    obtain rfl : cap = 0 := r4 rfl
    rw [e2, q2]
    exact ⟨ad', 0, rfl, Nat.le_refl _, Nat.zero_le _, fun _ => rfl, fun h => absurd h (Nat.lt_irrefl 0)⟩
 have hevo : ∀ k, k ≠ id' → Evo c s.o { c with own := fun k => if k = id' then u else c.own k, blk := fun k => if k = id' then bk else c.blk k } ((s.setO id none).setO id' (some (.arr true sz el m f))).o k := fun k hk => by
  by_cases hki : k = id
  · subst hki
    exact .inl (by simp [S.setO, hk])
  · exact Evo.of_same (by simp [S.setO, hk, hki]) (by simp [hk])
 refine ⟨{ c with own := fun k => if k = id' then u else c.own k, blk := fun k => if k = id' then bk else c.blk k }, rfl, ⟨h.defers, h.size, h.below, fun d x hx => ?_, fun k ob hk => ?_, fun i i' obi obi' b hi hi' hb hb' => ?_, h.imm, fun k ob b hk hb => ?_, h.was, h.frm, fun k ob b hk hb => ?_, fun k hk => ?_⟩, ?_⟩
 · exact (h.tmps d x hx).evo (Imm.le.refl c.imm) fun k hkm => hevo k (by rintro rfl; exact hnm.1 d x hx hkm)
 · by_cases hk' : k = id'
   · subst hk'
     obtain rfl : ob = .arr true sz el m f := by simpa [S.setO] using hk.symm
     refine hok _ ?_ ?_ ?_ _ <;> first | rfl | exact if_pos rfl
   · obtain ⟨hk1, hk2⟩ := hold k ob hk hk'
     exact (h.objs k ob hk1).keep (Imm.le.refl c.imm) (by simp [hk']) (by simp [hk']) (fun j hj => hevo j (by rintro rfl; exact hnm.2.1 k ob hk1 hj)) fun b _ => rfl
 · have hone : ∀ k ob b, k ≠ id' → ((s.setO id none).setO id' (some (.arr true sz el m f))).o k = some ob → c.blk k b → bk b → False := fun k ob b hk' hk hb hbb => by
    obtain ⟨hk1, hk2⟩ := hold k ob hk hk'
    exact hk2 (h.inj k id ob _ b hk1 ho hb (hbk b hbb))
   by_cases e1 : i = id'
   · by_cases e2 : i' = id'
     · rw [e1, e2]
     · exact (hone i' obi' b e2 hi' (by simpa [e2] using hb') (by simpa [e1] using hb)).elim
   · by_cases e2 : i' = id'
     · exact (hone i obi b e1 hi (by simpa [e1] using hb) (by simpa [e2] using hb')).elim
     · exact h.inj i i' obi obi' b (hold i obi hi e1).1 (hold i' obi' hi' e2).1 (by simpa [e1] using hb) (by simpa [e2] using hb')
 · by_cases hk' : k = id'
   · exact h.sep id _ b ho (hbk b (by simpa [hk'] using hb))
   · exact h.sep k ob b (hold k ob hk hk').1 (by simpa [hk'] using hb)
 · by_cases hk' : k = id'
   · exact h.fsep id _ b ho (hbk b (by simpa [hk'] using hb))
   · exact h.fsep k ob b (hold k ob hk hk').1 (by simpa [hk'] using hb)
 · exact (h.fixed k hk).trans (hevo k (by have := hnm.2.2; omega))
 · refine ⟨hu.1, fun l => by simp [S.setO], fun ob2 s2 e2 n2 ho2 hd2 => ?_⟩
   simp only [S.setO, if_true, Option.some.injEq] at ho2
   subst ho2
   simp only [ai.dim, Option.some.injEq, Prod.mk.injEq] at hd2
   obtain ⟨rfl, rfl, rfl⟩ := hd2
   exact ⟨Nat.le_refl _, fun _ => by simp⟩
end
section
variable {ro : Option Nat} {P : Program} {nt : Nat} {st : HSt} {Q : Exit → HSt → Prop}
theorem a8h {c : Code} (d id2 : Nat) {id n n' i m s : Nat} {e : TypeId} {f : Nat → Nat → PV} (hd : bn st.t d = some (.v (.one (.win id n i m)))) (ho : bn st.o id = some (.arr true s e n' f)) (hn : n' = n) (hi : i = 0) (hm : m ≤ n) (hnew : ni id2 st = true)
 (h : HW (ro := ro) P nt c ⟨(d, some (.v (.one (.ref id2 m)))) :: st.t, (id2, some (.arr true s e m f)) :: (id, none) :: st.o⟩ Q) : HW (ro := ro) P nt c st Q := by
 subst hn hi
 obtain ⟨hnm, hno⟩ := j1 hnew
 refine qu ⟨st.t, (id2, some (.arr true s e m f)) :: (id, none) :: st.o⟩ d (.v (.one (.ref id2 m))) (fun w0 m0 a w hr => ?_) h
 obtain ⟨cc, hold, hrr⟩ := hr
 obtain ⟨c', e1, e2, e3⟩ := hrr.short ho hm hnm hno (hrr.tmps d _ hd)
 have e4 : (HSt.den ⟨st.t, (id2, some (.arr true s e m f)) :: (id, none) :: st.o⟩) = (st.den.setO id none).setO id2 (some (.arr true s e m f)) := by
  unfold HSt.den S.setO
  simp [bq]
 exact ⟨c', e1.trans hold, by rw [e4]; exact e2, by rw [e4]; exact e3⟩
theorem tc {c : Code} (d id2 : Nat) {id n n' s : Nat} {e : TypeId} {f : Nat → Nat → PV} (hd : bn st.t d = some (.v (.one (.ref id n)))) (ho : bn st.o id = some (.arr true s e n' f)) (hn : n' = n) (hnew : ni id2 st = true)
 (h : HW (ro := ro) P nt c ⟨(d, some (.v (.one (.ref id2 n)))) :: st.t, (id2, some (.arr true s e n f)) :: (id, none) :: st.o⟩ Q) : HW (ro := ro) P nt c st Q := by
 subst hn
 obtain ⟨hnm, hno⟩ := j1 hnew
 refine qu ⟨st.t, (id2, some (.arr true s e n' f)) :: (id, none) :: st.o⟩ d (.v (.one (.ref id2 n'))) (fun w0 m0 a w hr => ?_) h
 obtain ⟨cc, hold, hrr⟩ := hr
 have hu : bm cc st.den.o (.ref id n') (a.tmps.getD d undef) := hrr.tmps d _ hd
 have hw : bm cc st.den.o (.win id n' 0 n') (a.tmps.getD d undef) := by
  refine ⟨hu.1, hu.2.1, fun ob s2 e2 n2 ho2 hd2 => ⟨(hu.2.2 _ _ _ _ ho2 hd2).1, fun hk => ?_⟩⟩
  have he := (hu.2.2 _ _ _ _ ho2 hd2).2 hk
  obtain rfl : ob = .arr true s e n' f := Option.some.inj (ho2.symm.trans ho)
  simp only [ai.dim, Option.some.injEq, Prod.mk.injEq] at hd2
  obtain ⟨rfl, rfl, rfl⟩ := hd2
  obtain ⟨ad, cap, hv, hc1, hc2⟩ := zo (hrr.objs _ _ ho2)
  exact ⟨ad, ad, cap, hv, by rw [he, hv]; rfl, by omega, hc1, hc2, fun _ => by cases ad <;> simp [x9]⟩
 obtain ⟨c', e1, e2, e3⟩ := hrr.short ho (Nat.le_refl _) hnm hno hw
 have e4 : (HSt.den ⟨st.t, (id2, some (.arr true s e n' f)) :: (id, none) :: st.o⟩) = (st.den.setO id none).setO id2 (some (.arr true s e n' f)) := by
  unfold HSt.den S.setO
  simp [bq]
 exact ⟨c', e1.trans hold, by rw [e4]; exact e2, by rw [e4]; exact e3⟩
end
end Go.Hx
end
section
namespace Go.Hx
theorem a97 {l : List AS} {k : Nat} (hk : l.length ≤ k) (h : ∀ j, 0 < j → j < k → ¬ l.getD j default = l.getD (j - 1) default) : fv l = l := by
 have := nz (Nat.le_refl l.length) fun j h1 h2 => h j h1 (by omega)
 rw [List.take_length] at this
 exact this
theorem a6e {l m : List AS} {k p q : Nat} (hC : CpI l k p q m) (hq : ¬ q < l.length) : (fv l).length = p ∧ m.take p = fv l := by
 have e := hC.pre
 have h1 := hC.ql
 have h2 := hC.len
 have h3 := hC.pq
 rw [show q = l.length by omega, List.take_length] at e
 exact ⟨by rw [← e]; simp; omega, e⟩
theorem asb {l m : List AS} {k p q n a d : Nat} {z : List Value} {e : TypeId} (hC : CpI l k p q m) (hq : ¬ q < l.length) (ha : p ≤ a) (hn : n = p) : CoO (.arr true 1 e n (jv (lf sC m) a d z)) (.arr true 1 e (fv l).length (lf sC (fv l))) := by
 obtain ⟨h1, h2⟩ := a6e hC hq
 subst hn
 refine ⟨fun h => h, rfl, rfl, h1, fun i j hi hj => CoP.of_eq ?_⟩
 show jv (lf sC m) a d z i j = lf sC (fv l) i j
 unfold jv
 rw [if_neg (by omega)]
 simp only [lf, List.getD]
 have e : (fv l)[i]? = m[i]? := by rw [← h2, List.getElem?_take, if_pos hi]
 rw [e]
theorem kb {id n m : Nat} (h : n = m) : CoR (.v (.one (.ref id n))) (.v (.one (.ref id m))) := by rw [h]; exact CoR.refl _
end Go.Hx
end
section
namespace Go.Hx
open Go.Proofs
set_option maxRecDepth 100000
theorem al9 (l : List AS) : d7 Tryz.prog 114 [.one (.ref 900 l.length)] [(900, .arr true 1 38 l.length (lf sC l))] (.v (.one (.ref 901 (fv l).length))) [(901, .arr true 1 38 (fv l).length (lf sC (fv l)))] [] := by
 refine eu (nt := 61) af Tryz.func114 rfl rfl l9 rfl ?_; refine a7 ?_
 refine a3c 900 rfl fun hlen => ?_
 refine gy ?_; refine qy ?_; refine a6 ?_; refine a7 ?_; refine sx7 ?_; (iterate 3 refine qy ?_); refine a6 ?_; refine a8 _ rfl (fun r0 => ?_) (fun r0 => ?_)
 ·
  have h0 := of_decide_eq_true r0
  try simp only [ty] at h0
  refine sx7 ?_; (iterate 2 refine qy ?_); refine a6 ?_; refine tc 2 901 rfl rfl rfl rfl ?_; refine ap ?_; refine ⟨.inr rfl, ?_⟩
  have he := a97 (l := l) (k := l.length) (Nat.le_refl _) (fun j h1 h2 => by omega)
  exact ⟨_, _, rfl, (by (repeat' apply And.intro) <;> first | trivial | exact Nat.le_of_ble_eq_true rfl), kb (by rw [he]), ⟨⟨_, rfl, fc he (by rw [he])⟩, trivial⟩⟩
 ·
  have h0 := of_decide_eq_false r0
  try simp only [ty] at h0
  refine aa ?_; refine a7 ?_; refine sx7 ?_; refine qy ?_; refine a6 ?_; refine ae ?_
  refine ak (ι := Nat) ⟨[(0, some _)], [(900, some _)]⟩ ⟨⟨c9, trivial⟩, ⟨u9, trivial⟩⟩ (fun k => ⟨[(3, some (vI k))], []⟩) (fun k => 1 ≤ k ∧ k ≤ l.length ∧ ∀ j, 0 < j → j < k → ¬ l.getD j default = l.getD (j - 1) default) (fun k => l.length - k) (1) (⟨Nat.le_refl _, by omega, fun j h1 h2 => by omega⟩) ⟨⟨zy, trivial⟩, trivial⟩ ?_
  rintro k ⟨hk1, hk, hI⟩
  refine a7 ?_; refine sx7 ?_; (iterate 4 refine qy ?_); refine a6 ?_; refine a8 _ rfl (fun r1 => ?_) (fun r1 => ?_)
  ·
   have h1 := of_decide_eq_true r1
   try simp only [ty] at h1
   refine aa ?_; refine a7 ?_; refine ae ?_; refine a7 ?_; refine ay (E := b6) af au [0, 1, 2, 3, 4, 5, 6, 7, 8, 9] ?_; (iterate 10 refine qy ?_); refine a6 ?_; refine ⟨by kernel_rfl, ?_⟩
   refine a8 _ rfl (fun r2 => ?_) (fun r2 => ?_)
   ·
    have h2 := of_decide_eq_true r2
    try simp only [ty] at h2
    refine sx7 ?_; (iterate 4 refine qy ?_); refine a6 ?_; refine a7 ?_; refine sx7 ?_; refine qy ?_; refine a6 ?_; refine ae ?_
    refine ak (ι := Nat × Nat × List AS) ⟨[(0, some _), (4, some _)], []⟩ ⟨⟨c9, c9, trivial⟩, trivial⟩ (fun x => ⟨[(3, some (vI x.1)), (5, some (vI ((x.2.1 : Int) - k)))], [(900, some (.arr true 1 38 l.length (lf sC x.2.2)))]⟩) (fun x => CpI l k x.1 x.2.1 x.2.2) (fun x => l.length - x.2.1) ((k, k + 1, l)) (CpI.start hk1 (by omega) hI (qh (by assumption) rfl (by omega))) ⟨⟨zy, ⟨_, rfl, (coi (by first | rfl | (dsimp only; omega)))⟩, trivial⟩, ⟨u9, trivial⟩⟩ ?_
    rintro ⟨p, q, m⟩ hC
    have hC0 := hC
    obtain ⟨hml, hkq, hpq, hql, _, _⟩ := hC0
    dsimp only at hC hml hkq hpq hql
    refine a7 ?_; refine sx7 ?_; (iterate 4 refine qy ?_); refine a6 ?_; refine a8 _ rfl (fun r3 => ?_) (fun r3 => ?_)
    ·
     have h3 := of_decide_eq_true r3
     try simp only [ty] at h3
     simp only [dq, bd, Int.toNat_natCast] at h3
     refine aa ?_; refine a7 ?_; refine ae ?_; refine a7 ?_; refine ay (E := b6) af au [0, 1, 2, 3, 4, 5, 6, 7, 8, 9] ?_; (iterate 10 refine qy ?_); refine a6 ?_
     refine ⟨by kernel_rfl, ?_⟩; refine a8 _ rfl (fun r4 => ?_) (fun r4 => ?_)
     ·
      have h4 := r4
      have h4 := of_decide_eq_false (az h4)
      try simp only [ty] at h4
      refine sx7 ?_; (iterate 7 refine qy ?_); refine s9 ?_; refine a6 ?_; refine gy ?_; (iterate 3 refine qy ?_); refine a6 ?_; refine gy ?_; (iterate 3 refine qy ?_); refine a6 ?_
      first | (refine ⟨(p + 1, q + 1, m.set p (m.getD q default)), ?_, ?_, ?_⟩
               · exact hC.keep (by omega) (qg (by assumption) (by simp only [bd]; omega) (by simp only [bd]; omega))
               · first | omega | (dsimp only; omega)
               · exact ⟨⟨⟨_, rfl, (coi (by first | rfl | (dsimp only; omega)))⟩, ⟨_, rfl, (coi (by first | rfl | (dsimp only; omega)))⟩, c9, c9, trivial⟩, ⟨⟨_, rfl, (mi id hml.symm (by omega) (by dsimp only; omega) (by simp only [bd]; omega))⟩, trivial⟩⟩)
            | (refine ⟨(p, q + 1, m), ?_, ?_, ?_⟩
               · exact hC.skip (by omega) (qh (by assumption) (by simp only [bd]; omega) (by simp only [bd]; omega))
               · first | omega | (dsimp only; omega)
               · exact ⟨⟨⟨_, rfl, (coi (by first | rfl | (dsimp only; omega)))⟩, ⟨_, rfl, (coi (by first | rfl | (dsimp only; omega)))⟩, c9, c9, trivial⟩, ⟨u9, trivial⟩⟩)
     ·
      have h4 := r4
      have h4 := of_decide_eq_true (b4 h4)
      try simp only [ty] at h4
      refine aa ?_; refine gy ?_; (iterate 3 refine qy ?_); refine a6 ?_
      first | (refine ⟨(p + 1, q + 1, m.set p (m.getD q default)), ?_, ?_, ?_⟩
               · exact hC.keep (by omega) (qg (by assumption) (by simp only [bd]; omega) (by simp only [bd]; omega))
               · first | omega | (dsimp only; omega)
               · exact ⟨⟨⟨_, rfl, (coi (by first | rfl | (dsimp only; omega)))⟩, ⟨_, rfl, (coi (by first | rfl | (dsimp only; omega)))⟩, c9, c9, trivial⟩, ⟨⟨_, rfl, (mi id hml.symm (by omega) (by dsimp only; omega) (by simp only [bd]; omega))⟩, trivial⟩⟩)
            | (refine ⟨(p, q + 1, m), ?_, ?_, ?_⟩
               · exact hC.skip (by omega) (qh (by assumption) (by simp only [bd]; omega) (by simp only [bd]; omega))
               · first | omega | (dsimp only; omega)
               · exact ⟨⟨⟨_, rfl, (coi (by first | rfl | (dsimp only; omega)))⟩, ⟨_, rfl, (coi (by first | rfl | (dsimp only; omega)))⟩, c9, c9, trivial⟩, ⟨u9, trivial⟩⟩)
    ·
     have h3 := of_decide_eq_false r3
     try simp only [ty] at h3
     simp only [dq, bd, Int.toNat_natCast] at h3
     refine am ?_; refine sx7 ?_; (iterate 3 refine qy ?_); refine ra 0 true rfl rfl rfl rfl rfl rfl ?_; refine a6 ?_; refine sx7 ?_; (iterate 4 refine qy ?_); refine a6 ?_
     refine a8h 2 901 rfl rfl rfl rfl (by simp only [dq, bd, Int.toNat_natCast]; omega) rfl ?_; refine ap ?_; refine ⟨.inr rfl, ?_⟩
     have he := (a6e hC (by omega)).1
     exact ⟨_, _, rfl, (by (repeat' apply And.intro) <;> first | trivial | exact Nat.le_of_ble_eq_true rfl), kb (by rw [he]; simp [dq, bd]), ⟨⟨_, rfl, asb hC (by omega) (by simp [bd]) (by simp [dq, bd])⟩, trivial⟩⟩
   ·
    have h2 := of_decide_eq_false r2
    try simp only [ty] at h2
    refine aa ?_; refine gy ?_; (iterate 3 refine qy ?_); refine a6 ?_; refine ⟨k + 1, ?_, ?_, ?_⟩
    · refine ⟨by omega, by show k + 1 ≤ _; omega, fun j h1 h2 => ?_⟩
      rcases Nat.lt_or_eq_of_le (Nat.le_of_lt_succ h2) with h | h
      · exact hI j h1 h
      · subst h
        exact qg (by assumption) rfl (by omega)
    · first | omega | (dsimp only; omega)
    · exact ⟨⟨zy, c9, trivial⟩, ⟨u9, trivial⟩⟩
  ·
   have h1 := of_decide_eq_false r1
   try simp only [ty] at h1
   refine am ?_; refine sx7 ?_; (iterate 2 refine qy ?_); refine a6 ?_; refine tc 2 901 rfl rfl rfl rfl ?_; refine ap ?_; refine ⟨.inr rfl, ?_⟩
   have he := a97 (l := l) (k := k) (by omega) hI
   exact ⟨_, _, rfl, (by (repeat' apply And.intro) <;> first | trivial | exact Nat.le_of_ble_eq_true rfl), kb (by rw [he]), ⟨⟨_, rfl, fc he (by rw [he])⟩, trivial⟩⟩
theorem av9 (l : List AS) (hl : l.length ≤ 8589934592) : d7 Tryz.prog 56 [.one (.p (asl l))] [] (.v (.one (.ref 901 (ord l).length))) [(901, .arr true 1 38 (ord l).length (lf sC (ord l)))] [] := by
 refine eu (nt := 10) af Tryz.func56 rfl rfl l9 rfl ?_; refine sx7 ?_; refine qy ?_; refine a6 ?_; refine sx7 ?_; refine qy ?_
 refine bv rfl rfl rfl rfl rfl rfl xc (v8 l.length false (lf sC l) (by omega)) (dg.refl _) trivial rfl rfl ?_; refine qy ?_; refine a6 ?_; refine sx7 ?_; refine qy ?_
 refine bv rfl rfl rfl rfl rfl rfl acn (arq 0 _ l hl) (dg.refl _) ⟨u9, trivial⟩ rfl rfl ?_; refine a6 ?_; refine sx7 ?_; refine qy ?_
 refine bv rfl rfl rfl rfl rfl rfl ads ((al9 (srt l)).swap 900 0) (⟨congrArg (HV.ref 0) (z8 l).symm, trivial⟩) ⟨⟨_, rfl, fc rfl (z8 l).symm⟩, trivial⟩ rfl rfl ?_; refine qy ?_; refine a6 ?_
 refine ap ?_; refine ⟨.inr rfl, ?_⟩
 exact ⟨_, _, rfl, (by (repeat' apply And.intro) <;> first | trivial | exact Nat.le_of_ble_eq_true rfl), kb (by rw [wz]), ⟨⟨_, rfl, fc (wz _).symm (by rw [wz])⟩, trivial⟩⟩
theorem ayu (s : AS) : d7 Tryz.prog 53 [.one (.p (asC s))] [] (.v (.one (.ref 901 (cu s).length))) [(901, .arr true 1 38 (cu s).length (lf sC (cu s)))] [] := by
 refine eu (nt := 23) af Tryz.func53 rfl rfl l9 rfl ?_; refine sx7 ?_; refine qy ?_; refine a6 ?_; refine a7 ?_; refine sx7 ?_; refine qy ?_
 refine rc rfl rfl rfl rfl rfl rfl ur (a3w s) (CoL.refl _) rfl rfl ?_; refine qy ?_; refine a6 ?_; refine a8 _ rfl (fun r0 => ?_) (fun r0 => ?_)
 ·
  have h0 := of_decide_eq_true r0
  try simp only [ty] at h0
  refine sx7 ?_; refine qy ?_; refine a6 ?_; refine dl 2 901 true 1 38 (lf sC []) (by decide) rfl (CoP.sl rfl (.inr rfl) (fun h => h) (fun i j hi _ => absurd hi (Nat.not_lt_zero i))) (.inr rfl) rfl ?_; refine ap ?_
  refine ⟨.inr rfl, ?_⟩
  exact ⟨_, _, rfl, (by (repeat' apply And.intro) <;> first | trivial | exact Nat.le_of_ble_eq_true rfl), kb (by rw [uj h0]; rfl), ⟨⟨_, rfl, fc (uj h0) (by rw [uj h0]; rfl)⟩, trivial⟩⟩
 ·
  have h0 := of_decide_eq_false r0
  try simp only [ty] at h0
  refine aa ?_; refine sx7 ?_; refine qy ?_; refine m9 0 ?_; refine qy ?_; refine a6 ?_; refine a7 ?_; refine sx7 ?_; (iterate 2 refine qy ?_); refine a6 ?_; refine ae ?_
  refine ak (ι := List AS × AS) ⟨[(0, some _)], []⟩ ⟨⟨c9, trivial⟩, trivial⟩ (fun y => ⟨[(3, some (.v (.one (.ref 0 y.1.length)))), (4, some (vA y.2))], [(0, some (.arr true 1 38 y.1.length (lf sC y.1)))]⟩) (fun y => zb s y) (fun y => y.2.toNat) (([s], s)) (a6x s) ⟨⟨zy, zy, trivial⟩, ⟨⟨_, rfl, (a2a (CoP.refl _))⟩, trivial⟩⟩ ?_
  rintro y hy
  have hlen := hy.2.1
  have hsl := s.isLt
  refine a7 ?_; refine sx7 ?_; (iterate 2 refine qy ?_); refine a6 ?_; refine a8 _ rfl (fun r1 => ?_) (fun r1 => ?_)
  ·
   have h1 := r1
   have h1 := of_decide_eq_false (az h1)
   try simp only [ty] at h1
   have hne : y.2 ≠ 0 := fun e => h1 (by rw [e]; rfl)
   refine aa ?_; refine ae ?_; refine sx7 ?_; refine qy ?_; refine rq rfl rfl rfl rfl rfl ?_ (hp := (a1i hne)); (iterate 3 refine qy ?_); refine a6 ?_; refine gy ?_; (iterate 2 refine qy ?_); refine m9 1 ?_
   refine ra 2 true rfl rfl rfl rfl rfl rfl ?_; refine qy ?_; refine a6 ?_; refine ⟨(y.1 ++ [(y.2 - 1) &&& s], (y.2 - 1) &&& s), ?_, ?_, ?_⟩
   · exact a6y hy hne
   · exact qo hne
   · exact ⟨⟨⟨_, rfl, (ee rfl)⟩, ⟨_, rfl, (n7 (wn hne))⟩, c9, trivial⟩, ⟨⟨_, rfl, (ey rfl (CoP.of_eq (by rw [wn hne]; rfl)))⟩, trivial⟩⟩
  ·
   have h1 := r1
   have h1 := of_decide_eq_true (b4 h1)
   try simp only [ty] at h1
   have hz : y.2 = 0 := d6.1 h1
   refine am ?_; refine a7 ?_; refine bu 3 rfl rfl rfl ?_; refine gy ?_; refine qy ?_; refine bv rfl rfl rfl rfl rfl rfl aax (av9 y.1 (by omega)) (dg.refl _) trivial rfl rfl ?_; refine qy ?_
   refine a6 ?_; refine ap ?_; refine ⟨.inr rfl, ?_⟩
   have he := (ab0 hy hz).trans (a5j h0).symm
   exact ⟨_, _, rfl, (by (repeat' apply And.intro) <;> first | trivial | exact Nat.le_of_ble_eq_true rfl), kb (by rw [he]), ⟨⟨_, rfl, fc he.symm (by rw [he])⟩, trivial⟩⟩
end Go.Hx
end
section
namespace Go.Hx
def md (l : List Fd) (p : AS) : Int := if ca 16 l = 0 then (if 8 < bsz p then 3 else if p >>> 16 = 0 then 0 else 1) else ca 16 l
def tj (l : List Fd) (p : AS) : Fd := if md l p = 0 then im l p else ⟨0, 0⟩
def om (l : List Fd) (p : AS) : Bool := decide (md l p = 0) && d4 l p
theorem xp {f : Fd} (h : f = ⟨0, 0⟩) : CoC (.agg [j7 (.int .u32 0), j7 (.int .u32 0)]) f.pc := CoC.of_eq (by rw [h]; rfl)
theorem azj {a b : Fd} (h : a = b) : CoC a.pc b.pc := CoC.of_eq (by rw [h])
theorem awr {l : List Fd} {p : AS} (h : ¬ ca 16 l = 0) : md l p = ca 16 l ∧ tj l p = ⟨0, 0⟩ ∧ om l p = false := by
 have e : md l p = ca 16 l := if_neg h
 unfold tj om
 rw [e]
 exact ⟨rfl, if_neg h, by rw [decide_eq_false h]; rfl⟩
theorem axn {l : List Fd} {p : AS} (h : ca 16 l = 0) (h2 : (8 : Int) < bsz p) : md l p = 3 ∧ tj l p = ⟨0, 0⟩ ∧ om l p = false := by
 have e : md l p = 3 := by unfold md; rw [if_pos h, if_pos (by omega)]
 unfold tj om
 rw [e]
 exact ⟨rfl, rfl, rfl⟩
theorem aa3 {p : AS} {n : Nat} : (asI p).fdiv (2 ^ (min n 32)) = 0 ↔ p >>> n = 0 := by
 rw [yl, show (0 : Int) = asI 0 from rfl, d6]
theorem axt {l : List Fd} {p : AS} (h : ca 16 l = 0) (h2 : ¬ (8 : Int) < bsz p) (h3 : ¬ (asI p).fdiv (2 ^ (min 16 32)) = 0) : md l p = 1 ∧ tj l p = ⟨0, 0⟩ ∧ om l p = false := by
 rw [aa3] at h3
 have e : md l p = 1 := by unfold md; rw [if_pos h, if_neg (by omega), if_neg h3]
 unfold tj om
 rw [e]
 exact ⟨rfl, rfl, rfl⟩
theorem aws {l : List Fd} {p : AS} (h : ca 16 l = 0) (h2 : ¬ (8 : Int) < bsz p) (h3 : (asI p).fdiv (2 ^ (min 16 32)) = 0) : md l p = 0 ∧ tj l p = im l p ∧ om l p = d4 l p := by
 rw [aa3] at h3
 have e : md l p = 0 := by unfold md; rw [if_pos h, if_neg (by omega), if_pos h3]
 unfold tj om
 rw [e]
 exact ⟨rfl, rfl, rfl⟩
def bcP (n : Int) (l : List Fd) (f : Fd) : Bool := decide (f.rhs &&& ~~~f.lhs ≠ 0) && decide (clo l f.lhs ≠ bw n)
def bcS (n : Int) (l : List Fd) : Bool := decide (ca n l = 0) && !l.any (bcP n l)
def dm (n : Int) (l : List Fd) : List AS := if fp n l 8 = 0 then (cu (bw n)).filter fun s => !d4 l s else []
theorem axf {n : Int} {l : List Fd} (h : fp n l 8 = 0) : dm n l = (cu (bw n)).filter fun s => !d4 l s := if_pos h
theorem aye {n : Int} {l : List Fd} (h : ¬ fp n l 8 = 0) : dm n l = [] := if_neg h
theorem qa {n m : Int} {l : List Fd} (h : fp n l m = 0) : ca n l = 0 ∧ n ≤ m := by
 unfold fp at h
 split at h
 · rename_i hv
   split at h
   · cases h
   · exact ⟨hv, by omega⟩
 · rename_i hv
   exact absurd h hv
theorem ao7 (n : Int) (l : List Fd) : (dm n l).length ≤ 4294967296 := by
 unfold dm
 have := yp (bw n)
 split
 · exact Nat.le_trans (List.length_filter_le _ _) this
 · simp
end Go.Hx
end
section
namespace Go.Hx
open Go.Proofs
set_option maxRecDepth 100000
theorem ax7 : goodFn Tryz.prog 58 := ⟨Tryz.f58, Tryz.func58, by kernel_rfl, by kernel_rfl⟩
theorem b20 (l : List Fd) (p : AS) : aj Tryz.prog 58 [pP (fdl l), pA p] (aq [(tj l p).pc, pB (om l p), pI (md l p)]) := by
 refine ag (nt := 32) af Tryz.func58 rfl rfl l9 ?_; refine sx7 ?_; refine m9 0 ?_; (iterate 2 refine qy ?_); refine a6 ?_; refine a7 ?_; refine sx7 ?_; refine qy ?_
 refine rc rfl rfl rfl rfl rfl rfl yh (xf 16 l) (CoL.refl _) rfl rfl ?_; refine qy ?_; refine a6 ?_; refine sx7 ?_; (iterate 2 refine qy ?_); refine a6 ?_; refine a8 _ rfl (fun r0 => ?_) (fun r0 => ?_)
 ·
  have h0 := r0
  have h0 := of_decide_eq_false (az h0)
  try simp only [ty] at h0
  refine sx7 ?_; (iterate 2 refine qy ?_); refine s9 ?_; (iterate 2 refine qy ?_); refine a6 ?_; refine ap ?_; refine ⟨.inr rfl, ?_⟩
  have he := awr (p := p) h0
  exact f9 rfl rfl (⟨xp he.2.1, ccb he.2.2.symm, cci he.1.symm, trivial⟩)
 ·
  have h0 := r0
  have h0 := of_decide_eq_true (b4 h0)
  try simp only [ty] at h0
  refine aa ?_; refine a7 ?_; refine sx7 ?_; refine qy ?_; refine rc rfl rfl rfl rfl rfl rfl ur (a3w p) (CoL.refl _) rfl rfl ?_; refine qy ?_; refine a6 ?_; refine a8 _ rfl (fun r1 => ?_) (fun r1 => ?_)
  ·
   have h1 := of_decide_eq_true r1
   try simp only [ty] at h1
   refine sx7 ?_; refine qy ?_; refine s9 ?_; (iterate 2 refine qy ?_); refine a6 ?_; refine ap ?_; refine ⟨.inr rfl, ?_⟩
   have he := axn h0 h1
   exact f9 rfl rfl (⟨xp he.2.1, ccb he.2.2.symm, cci he.1.symm, trivial⟩)
  ·
   have h1 := of_decide_eq_false r1
   try simp only [ty] at h1
   refine aa ?_; refine a7 ?_; refine sx7 ?_; (iterate 3 refine qy ?_); refine a6 ?_; refine a8 _ rfl (fun r2 => ?_) (fun r2 => ?_)
   ·
    have h2 := r2
    have h2 := of_decide_eq_false (az h2)
    try simp only [ty] at h2
    refine sx7 ?_; refine qy ?_; refine s9 ?_; (iterate 2 refine qy ?_); refine a6 ?_; refine ap ?_; refine ⟨.inr rfl, ?_⟩
    have he := axt h0 h1 h2
    exact f9 rfl rfl (⟨xp he.2.1, ccb he.2.2.symm, cci he.1.symm, trivial⟩)
   ·
    have h2 := r2
    have h2 := of_decide_eq_true (b4 h2)
    try simp only [ty] at h2
    refine aa ?_; refine sx7 ?_; (iterate 2 refine qy ?_); refine rc rfl rfl rfl rfl rfl rfl a2k (a7n l p) (CoL.refl _) rfl rfl ?_; (iterate 3 refine qy ?_); refine m9 1 ?_; refine s9 ?_; refine qy ?_; refine a6 ?_
    refine sx7 ?_; (iterate 2 refine qy ?_); refine s9 ?_; (iterate 2 refine qy ?_); refine a6 ?_; refine ap ?_; refine ⟨.inr rfl, ?_⟩
    have he := aws h0 h1 h2
    exact f9 rfl rfl (⟨azj he.2.1.symm, ccb he.2.2.symm, cci he.1.symm, trivial⟩)
theorem auf : goodFn Tryz.prog 123 := ⟨Tryz.f123, Tryz.func123, by kernel_rfl, by kernel_rfl⟩
theorem atg (s : AS) (l : List Fd) : aj Tryz.prog 123 [pA s, pP (bx (fdl l))] (aq [pB (d4 l s)]) := by
 refine ag (nt := 13) af Tryz.func123 rfl rfl l9 ?_; refine sx7 ?_; refine qy ?_; refine a6 ?_; refine sx7 ?_; (iterate 2 refine qy ?_); refine rc rfl rfl rfl rfl rfl rfl a2k (a7n l s) (CoL.refl _) rfl rfl ?_
 (iterate 3 refine qy ?_); refine m9 0 ?_; refine s9 ?_; refine qy ?_; refine a6 ?_; refine sx7 ?_; (iterate 2 refine qy ?_); refine a6 ?_
 exact hx8 rfl rfl rfl (CoL.refl _)
theorem afk : goodFn Tryz.prog 68 := ⟨Tryz.f68, Tryz.func68, by kernel_rfl, by kernel_rfl⟩
theorem ala (n : Int) (l : List Fd) : aj Tryz.prog 68 [pI n, pP (fdl l)] (aq [pP (asl (dm n l)), pI (fp n l 8)]) := by
 refine ag (nt := 18) af Tryz.func68 rfl rfl l9 ?_; refine sx7 ?_; refine m9 2 ?_; (iterate 2 refine qy ?_); refine a6 ?_; refine a7 ?_; refine sx7 ?_; (iterate 2 refine qy ?_)
 refine rc rfl rfl rfl rfl rfl rfl ak5 (ax9 n l) (CoL.refl _) rfl rfl ?_; refine qy ?_; refine a6 ?_; refine sx7 ?_; (iterate 2 refine qy ?_); refine a6 ?_; refine a8 _ rfl (fun r0 => ?_) (fun r0 => ?_)
 ·
  have h0 := r0
  have h0 := of_decide_eq_false (az h0)
  try simp only [ty] at h0
  refine sx7 ?_; (iterate 3 refine qy ?_); refine a6 ?_
  exact hx8 rfl rfl rfl (⟨CoC.one (a59 (aye h0)), CoC.refl _, trivial⟩)
 ·
  have h0 := r0
  have h0 := of_decide_eq_true (b4 h0)
  try simp only [ty] at h0
  refine aa ?_; refine a7 ?_
  have hv := it (qa h0).1
  refine ct 3 rfl rfl rfl ?_; refine gy ?_; refine qy ?_; refine rc rfl rfl rfl rfl rfl rfl a8w (aet n hv.1 hv.2.1) (CoL.refl _) rfl rfl ?_
  refine bv rfl rfl rfl rfl rfl rfl al7 (ayu (bw n)) (dg.refl _) trivial rfl rfl ?_; refine qy ?_
  refine bv rfl rfl rfl rfl rfl rfl ad9 ((arp (cu (bw n)) 123 1 (fun i => [bx (fdl l)].getD i .any) (d4 l) auf (fun s => atg s l)).swap 900 901) (dg.refl _) ⟨u9, trivial⟩ rfl rfl ?_
  (iterate 2 refine qy ?_); refine a6 ?_
  exact hx8 rfl rfl rfl (⟨CoC.one (CoP.of_eq (by rw [axf h0])), cci h0.symm, trivial⟩)
end Go.Hx
end
section
namespace Go.Hx
def py (l : List Fd) (p z : AS) : AS := (p &&& clo l (z &&& p)) &&& ~~~z
def jb (l : List Fd) (z p : AS) : Bool := decide (py l p z ≠ 0)
def a4u (l : List Fd) (ps : List AS) : Nat → AS → AS
 | 0, z => z
 | n + 1, z => match ps.find? (jb l z) with
  | none => z
  | some p => a4u l ps n (z ||| py l p z)
def a18 (l : List Fd) (ps : List AS) (z : AS) : AS := a4u l ps 4294967297 z
def j9 (l : List Fd) (ps : List AS) (f : Fd) : Bool := decide (sub f.rhs (a18 l ps f.lhs))
theorem awe (l : List Fd) (p z : AS) : d9 .andNot .u32 (d9 .and .u32 (asI p) (asI (clo l (z &&& p)))) (asI z) = asI (py l p z) := by rw [o5, a4l]; rfl
theorem at3 {l : List Fd} {p z : AS} : (!decide (asI (py l p z) = 0)) = jb l z p := by
 unfold jb
 rw [show (0 : Int) = asI 0 from rfl, agd]
 simp
theorem azo {z m : AS} (h : m &&& ~~~z = m) (h0 : m ≠ 0) : z.toNat < (z ||| m).toNat := by
 have hs : sub z (z ||| m) := cb.2 fun i _ hi => by rw [BitVec.getLsbD_or, hi]; rfl
 have hle := a7p hs
 rcases Nat.lt_or_eq_of_le hle with h1 | h1
 · exact h1
 · exfalso
   apply h0
   have e : z = z ||| m := BitVec.eq_of_toNat_eq h1
   apply BitVec.eq_of_getLsbD_eq
   intro i hi
   have e1 := congrArg (fun s : AS => s.getLsbD i) e
   have e2 := congrArg (fun s : AS => s.getLsbD i) h
   simp only [BitVec.getLsbD_or, BitVec.getLsbD_and, BitVec.getLsbD_not] at e1 e2
   have e3 : (0 : AS).getLsbD i = false := by simp
   rw [e3]
   rw [decide_eq_true hi] at e2
   clear h h0 hs hle h1 e
   revert e1 e2
   cases z.getLsbD i <;> cases m.getLsbD i <;> simp
theorem ao5 {l : List Fd} {p z : AS} (h : jb l z p = true) : z.toNat < (z ||| py l p z).toNat := by
 refine azo ?_ (of_decide_eq_true h)
 unfold py
 rw [BitVec.and_assoc, BitVec.and_self]
def a4n (l : List Fd) (ps : List AS) (z0 : AS) (x : Nat × List Nat × AS) : Prop := a4u l ps x.1 x.2.2 = a18 l ps z0 ∧ 4294967296 < x.1 + x.2.2.toNat ∧ x.2.1.length + x.1 = 4294967297
theorem amk (l : List Fd) (ps : List AS) (z0 : AS) : a4n l ps z0 (4294967297, [], z0) := by
 refine ⟨rfl, ?_, ?_⟩
 · dsimp only; omega
 · dsimp only; rw [List.length_nil]
theorem a4e {l : List Fd} {ps : List AS} {z0 : AS} {x : Nat × List Nat × AS} (h : a4n l ps z0 x) : 0 < x.1 := by
 have := h.2.1
 have := x.2.2.isLt
 omega
theorem auw {l : List Fd} {ps : List AS} {z0 : AS} {x : Nat × List Nat × AS} (h : a4n l ps z0 x) (hi : idx (jb l x.2.2) ps < 0) : x.2.2 = a18 l ps z0 := by
 have hp := a4e h
 rw [← h.1]
 obtain ⟨n, hn⟩ : ∃ n, x.1 = n + 1 := ⟨x.1 - 1, by omega⟩
 rw [hn]
 unfold a4u
 have : ps.find? (jb l x.2.2) = none := by
  have hm : idx (jb l x.2.2) ps = -1 := by
   by_cases h : idx (jb l x.2.2) ps = -1
   · exact h
   · obtain ⟨i, h1, _⟩ := nn h
     omega
  exact a9q (w4 hm)
 rw [this]
theorem ao4 {l : List Fd} {ps : List AS} {z0 : AS} {x : Nat × List Nat × AS} {i : Nat} (h : a4n l ps z0 x) (hi : i < ps.length) (hv : jb l x.2.2 (ps.getD i default) = true) (hj : ∀ j, j < i → jb l x.2.2 (ps.getD j default) = false) :
 a4n l ps z0 (x.1 - 1, x.2.1 ++ [i], x.2.2 ||| py l (ps.getD i default) x.2.2) := by
 have hp := a4e h
 have hlt := ao5 hv
 obtain ⟨h1, h2, h3⟩ := h
 obtain ⟨n, hn⟩ : ∃ n, x.1 = n + 1 := ⟨x.1 - 1, by omega⟩
 refine ⟨?_, by dsimp only; omega, ?_⟩
 · rw [← h1, hn]
   have : ps.find? (jb l x.2.2) = some (ps.getD i default) := a8r hi hj hv
   show a4u l ps n _ = _
   conv => rhs; unfold a4u
   rw [this]
 · dsimp only
   rw [List.length_append, List.length_singleton]
   omega
def ky (l : List Fd) (ps : List AS) (i : Nat) : List Nat := (List.range i).filter fun j => !j9 l ps (l.getD j default)
def y5 (l : List Fd) (ps : List AS) : Bool := (List.range l.length).all fun j => j9 l ps (l.getD j default)
theorem a09 {l : List Fd} {ps : List AS} {i : Nat} (h : j9 l ps (l.getD i default) = false) : ky l ps (i + 1) = ky l ps i ++ [i] := by
 unfold ky
 rw [List.range_succ, List.filter_append]
 simp only [List.filter_cons, h, Bool.not_false, Bool.not_true, if_true, List.filter_nil, List.append_nil, Bool.false_eq_true, if_false]
theorem zr {l : List Fd} {ps : List AS} {i : Nat} (h : j9 l ps (l.getD i default) = true) : ky l ps (i + 1) = ky l ps i := by
 unfold ky
 rw [List.range_succ, List.filter_append]
 simp only [List.filter_cons, h, Bool.not_false, Bool.not_true, if_true, List.filter_nil, List.append_nil, Bool.false_eq_true, if_false]
theorem aj1 (l : List Fd) (ps : List AS) (i : Nat) : (ky l ps i).length ≤ i := Nat.le_trans (List.length_filter_le _ _) (by rw [List.length_range]; exact Nat.le_refl _)
theorem aq2 {l : List Fd} {ps : List AS} : decide (((ky l ps l.length).length : Int) = 0) = y5 l ps := by
 unfold ky y5
 rw [Bool.eq_iff_iff, decide_eq_true_iff, List.all_eq_true]
 constructor
 · intro h x hx
   have h0 : ((List.range l.length).filter fun j => !j9 l ps (l.getD j default)) = [] := List.eq_nil_of_length_eq_zero (by omega)
   rw [List.filter_eq_nil_iff] at h0
   have := h0 x hx
   simpa using this
 · intro h
   rw [List.filter_eq_nil_iff.2 fun x hx => (by rw [h x hx]; decide)]
   rfl
theorem axy {l : List Fd} {ps : List AS} {f : Fd} : decide (d9 .andNot .u32 (asI f.rhs) (asI (a18 l ps f.lhs)) = 0) = j9 l ps f := decide_eq_decide.2 lh
theorem avl (l : List Fd) : HV.clo 229 2 (fun i => [HV.p (bx (fdl l)), .ptr 1 0].getD i (.p .any)) = HV.clo 229 2 (fun i => ([HV.p (bx (fdl l)), .ptr 1000 0].getD i (.p .any)).ren (swp 1000 1)) :=
 congrArg (HV.clo 229 2) (funext fun i => match i with | 0 => rfl | 1 => rfl | n + 2 => rfl)
end Go.Hx
end
section
namespace Go.Hx
open Go.Proofs
set_option maxRecDepth 100000
set_option maxHeartbeats 1000000
theorem adi : goodFn Tryz.prog 230 := ⟨Tryz.f230, Tryz.func230, by kernel_rfl, by kernel_rfl⟩
theorem arv (l : List Fd) (p z : AS) : aj Tryz.prog 230 [pP (fdl l), pA p, pA z] (aq [pA (py l p z)]) := by
 refine ag (nt := 16) af Tryz.func230 rfl rfl l9 ?_; refine sx7 ?_; refine qy ?_; refine a6 ?_; refine sx7 ?_; (iterate 5 refine qy ?_)
 refine rc rfl rfl rfl rfl rfl rfl zz (a3k l (z &&& p)) (⟨CoC.refl _, cci (o5 _ _), trivial⟩) rfl rfl ?_; (iterate 4 refine qy ?_); refine a6 ?_
 exact hx8 rfl rfl rfl (⟨cci (awe l p z), trivial⟩)
theorem aug : goodFn Tryz.prog 229 := ⟨Tryz.f229, Tryz.func229, by kernel_rfl, by kernel_rfl⟩
theorem b0f (x : AS) (l : List Fd) (z : AS) : d7 Tryz.prog 229 [.one (.p (asC x)), .one (.p (bx (fdl l))), .one (.ptr 1000 0)] [(1000, .box [.p (asC z)])] (.v (.one (.p (.raw (.bool (jb l z x)))))) [(1000, .box [.p (asC z)])] [1000] := by
 refine eu (nt := 10) af Tryz.func229 rfl rfl l9 rfl ?_; refine sx7 ?_; refine qy ?_; refine a6 ?_; refine sx7 ?_; (iterate 3 refine qy ?_)
 refine rc rfl rfl rfl rfl rfl rfl adi (arv l x z) (CoL.refl _) rfl rfl ?_; (iterate 2 refine qy ?_); refine a6 ?_; refine ap ?_; refine ⟨.inr rfl, ?_⟩
 exact ⟨_, _, rfl, (by (repeat' apply And.intro) <;> first | trivial | exact Nat.le_of_ble_eq_true rfl), cob at3, ⟨u9, trivial⟩⟩
theorem b1m (ps : List AS) (l : List Fd) (z : AS) : d7 Tryz.prog 121 [.one (.p (asl ps)), .one (.clo 229 2 fun i => [HV.p (bx (fdl l)), .ptr 1000 0].getD i (.p .any))] [(1000, .box [.p (asC z)])] (.v (.one (.p (.raw (.int .i64 (idx (jb l z) ps)))))) [(1000, .box [.p (asC z)])] [1000] := by
 refine eu (nt := 19) af Tryz.func121 rfl rfl l9 rfl ?_; refine a7 ?_
 refine ce 0 rfl fun hn => ?_
 refine gy ?_; refine qy ?_; refine a6 ?_; refine df (ι := Unit) ⟨[], [(1000, some _)]⟩ ⟨trivial, ⟨u9, trivial⟩⟩ (fun _i => ⟨[], []⟩) (fun _i => idx (jb l z) ps = -1) ?_ ?_
 ·
  refine sx7 ?_; (iterate 3 refine qy ?_); refine a6 ?_; refine ae ?_
  refine ak (ι := Nat) ⟨[(0, some _), (1, some _), (7, some _)], [(1000, some _)]⟩ ⟨⟨c9, c9, c9, trivial⟩, ⟨u9, trivial⟩⟩ (fun i => ⟨[(8, some (vI i))], []⟩) (fun i => i ≤ ps.length ∧ (∀ j, j < i → jb l z (ps.getD j default) = false)) (fun i => ps.length - i) (0) (⟨Nat.zero_le _, bt⟩) ⟨⟨zy, trivial⟩, trivial⟩ ?_
  rintro i ⟨hi, hI⟩
  refine sx7 ?_; refine qy ?_; refine a6 ?_; refine a7 ?_; refine a8 _ rfl (fun r0 => ?_) (fun r0 => ?_)
  ·
   have h0 := of_decide_eq_true r0
   try simp only [ty] at h0
   refine aa ?_; refine a7 ?_; refine ae ?_; refine sx7 ?_; (iterate 2 refine qy ?_); refine a6 ?_; refine sx7 ?_; (iterate 5 refine qy ?_)
   refine bv rfl rfl rfl rfl rfl rfl aug (b0f (ps.getD i default) l z) (dg.refl _) ⟨u9, trivial⟩ rfl rfl ?_; refine a6 ?_; refine a8 _ rfl (fun r1 => ?_) (fun r1 => ?_)
   ·
    have h1 := r1
    refine sx7 ?_; (iterate 2 refine qy ?_); refine a6 ?_; refine ap ?_; refine ⟨.inr rfl, ?_⟩
    exact ⟨_, _, rfl, (by (repeat' apply And.intro) <;> first | trivial | exact Nat.le_of_ble_eq_true rfl), coi (t7 (i := i) (by omega) hI h1).symm, ⟨u9, trivial⟩⟩
   ·
    have h1 := r1
    refine aa ?_; refine gy ?_; (iterate 2 refine qy ?_); refine a6 ?_; refine ⟨i + 1, ?_, ?_, ?_⟩
    · exact ⟨by show i + 1 ≤ _; omega, be hI (h1)⟩
    · first | omega | (dsimp only; omega)
    · exact ⟨⟨zy, c9, c9, c9, trivial⟩, ⟨u9, trivial⟩⟩
  ·
   have h0 := of_decide_eq_false r0
   try simp only [ty] at h0
   refine am ?_; refine ⟨(), ?_, ?_⟩
   · exact sy fun j hj => hI j (by omega)
   · exact ⟨trivial, ⟨u9, trivial⟩⟩
 · rintro _ hj
   refine sx7 ?_; refine qy ?_; refine a6 ?_; refine ap ?_; refine ⟨.inr rfl, ?_⟩
   exact ⟨_, _, rfl, (by (repeat' apply And.intro) <;> first | trivial | exact Nat.le_of_ble_eq_true rfl), coi hj.symm, ⟨u9, trivial⟩⟩
theorem au7 : goodFn Tryz.prog 208 := ⟨Tryz.f208, Tryz.func208, by kernel_rfl, by kernel_rfl⟩
theorem asx (l : List Fd) (ps : List AS) (z0 : AS) : aj Tryz.prog 208 [pP (fdl l), pP (asl ps), pA z0] (aq [pA (a18 l ps z0), pP .any]) := by
 refine ag (nt := 30) af Tryz.func208 rfl rfl l9 ?_; refine sx7 ?_; refine m9 0 ?_; refine m9 1 ?_; (iterate 2 refine qy ?_); refine a6 ?_; refine sx7 ?_; refine qy ?_; refine a6 ?_; refine ae ?_
 refine ct 3 rfl rfl rfl ?_; refine dl 8 900 true 1 3 (lf iC []) (by decide) rfl (CoP.sl rfl (.inr rfl) (fun h => h) (fun i j hi _ => absurd hi (Nat.not_lt_zero i))) (.inr rfl) rfl ?_
 refine ak (ι := Nat × List Nat × AS) ⟨[(1, some _), (3, some _), (5, some _)], []⟩ ⟨⟨c9, c9, c9, trivial⟩, trivial⟩ (fun x => ⟨[(8, some (.v (.one (.ref 900 x.2.1.length))))], [(900, some (.arr true 1 3 x.2.1.length (lf iC x.2.1))), (1, some (.box [.p (asC x.2.2)]))]⟩) (fun x => a4n l ps z0 x) (fun x => x.1) ((4294967297, [], z0)) (amk l ps z0) ⟨⟨zy, trivial⟩, ⟨u9, u9, trivial⟩⟩ ?_
 rintro x hx
 have hlen := hx.2.2
 have hpos := a4e hx
 refine ae ?_; refine sx7 ?_; (iterate 2 refine qy ?_); refine bv rfl rfl rfl rfl rfl rfl a5n ((b1m ps l x.2.2).swap 1000 1) (⟨CoP.refl _, avl l, trivial⟩) ⟨u9, trivial⟩ rfl rfl ?_; refine qy ?_
 refine a6 ?_; refine a7 ?_; refine sx7 ?_; (iterate 2 refine qy ?_); refine a6 ?_; refine a8 _ rfl (fun r0 => ?_) (fun r0 => ?_)
 ·
  have h0 := of_decide_eq_true r0
  try simp only [ty] at h0
  refine a7 ?_; refine bu 8 rfl rfl rfl ?_; refine gy ?_; (iterate 4 refine qy ?_); refine a6 ?_
  exact hx8 rfl rfl rfl (⟨cci (congrArg asI (auw hx (by omega))), CoC.one (CoP.any_of), trivial⟩)
 ·
  have h0 := of_decide_eq_false r0
  try simp only [ty] at h0
  obtain ⟨i0, hi0, hi1, hi2, hi3⟩ := nn (p := jb l x.2.2) (l := ps) (by omega)
  refine aa ?_; refine a7 ?_; refine ay (E := b6) af au [0, 1, 2, 3, 4, 5, 6, 7, 8, 9] ?_; (iterate 7 refine qy ?_)
  refine rc rfl rfl rfl rfl rfl rfl adi (arv l (ps.getD i0 default) x.2.2) (⟨CoC.refl _, CoC.one (CoP.of_eq (by rw [hi0]; rfl)), CoC.refl _, trivial⟩) rfl rfl ?_; refine qy ?_; refine s9 ?_; refine a6 ?_
  refine ⟨by kernel_rfl, ?_⟩; refine gy ?_; (iterate 2 refine qy ?_); refine m9 2 ?_; refine ra 3 true rfl rfl rfl rfl rfl rfl ?_; refine qy ?_; refine a6 ?_
  refine ⟨(x.1 - 1, x.2.1 ++ [i0], x.2.2 ||| py l (ps.getD i0 default) x.2.2), ?_, ?_, ?_⟩
  · exact ao4 hx hi1 hi2 hi3
  · dsimp only
    omega
  · exact ⟨⟨⟨_, rfl, (ee rfl)⟩, c9, c9, c9, trivial⟩, ⟨⟨_, rfl, (ey rfl (CoP.of_eq (congrArg (fun z => PV.raw (.int .i64 z)) hi0)))⟩, ⟨_, rfl, ⟨CoP.of_eq (congrArg (fun z => PV.raw (.int .u32 z)) (bOr _ _)), trivial⟩⟩, trivial⟩⟩
theorem awa : goodFn Tryz.prog 166 := ⟨Tryz.f166, Tryz.func166, by kernel_rfl, by kernel_rfl⟩
theorem b0o (l : List Fd) (ps : List AS) (z : AS) : aj Tryz.prog 166 [pP (fdl l), pP (asl ps), pA z] (aq [pA (a18 l ps z)]) := by
 refine ag (nt := 17) af Tryz.func166 rfl rfl l9 ?_; refine sx7 ?_; refine qy ?_; refine a6 ?_; refine sx7 ?_; (iterate 3 refine qy ?_)
 refine rc rfl rfl rfl rfl rfl rfl au7 (asx l ps z) (CoL.refl _) rfl rfl ?_; (iterate 5 refine qy ?_); refine a6 ?_; refine sx7 ?_; (iterate 2 refine qy ?_); refine a6 ?_
 exact hx8 rfl rfl rfl (CoL.refl _)
theorem acx : goodFn Tryz.prog 118 := ⟨Tryz.f118, Tryz.func118, by kernel_rfl, by kernel_rfl⟩
theorem ary (l : List Fd) (ps : List AS) (x : Fd) : aj Tryz.prog 118 [pP (fdl l), pP (asl ps), x.pc] (aq [pB (j9 l ps x)]) := by
 refine ag (nt := 16) af Tryz.func118 rfl rfl l9 ?_; refine sx7 ?_; refine m9 0 ?_; refine qy ?_; refine a6 ?_; refine a7 ?_; refine ay (E := b6) af au [0, 1, 2, 3, 4, 5, 6, 7, 8, 9] ?_
 (iterate 6 refine qy ?_); refine rc rfl rfl rfl rfl rfl rfl awa (b0o l ps x.lhs) (CoL.refl _) rfl rfl ?_; (iterate 3 refine qy ?_); refine a6 ?_; refine ⟨by kernel_rfl, ?_⟩
 exact hx8 rfl rfl rfl (⟨ccb axy, trivial⟩)
theorem auz : goodFn Tryz.prog 124 := ⟨Tryz.f124, Tryz.func124, by kernel_rfl, by kernel_rfl⟩
theorem b03 (l : List Fd) (ps : List AS) (hl : l.length ≤ 16777216) : aj Tryz.prog 124 [pP (fdl l), pP (asl ps)] (aq [pP (il (ky l ps l.length))]) := by
 refine ag (nt := 26) af Tryz.func124 rfl rfl l9 ?_; refine sx7 ?_; refine qy ?_; refine a6 ?_; refine sx7 ?_; refine qy ?_; refine a6 ?_; (iterate 2 refine a7 ?_)
 refine ce 0 rfl fun hn => ?_
 refine gy ?_; (iterate 3 refine qy ?_); refine a6 ?_; refine ae ?_
 refine dl 5 900 true 1 3 (lf iC []) (by decide) rfl (CoP.sl rfl (.inr rfl) (fun h => h) (fun i j hi _ => absurd hi (Nat.not_lt_zero i))) (.inr rfl) rfl ?_
 refine ak (ι := Nat) ⟨[(0, some _), (1, some _), (8, some _), (9, some _)], []⟩ ⟨⟨c9, c9, c9, c9, trivial⟩, trivial⟩ (fun i => ⟨[(5, some (.v (.one (.ref 900 (ky l ps i).length)))), (10, some (vI i))], [(900, some (.arr true 1 3 (ky l ps i).length (lf iC (ky l ps i))))]⟩) (fun i => i ≤ l.length) (fun i => l.length - i) (0) (Nat.zero_le _) ⟨⟨zy, zy, trivial⟩, ⟨u9, trivial⟩⟩ ?_
 rintro i hi
 have hlen := aj1 l ps i
 refine sx7 ?_; refine qy ?_; refine a6 ?_; refine a7 ?_; refine a8 _ rfl (fun r0 => ?_) (fun r0 => ?_)
 ·
  have h0 := of_decide_eq_true r0
  try simp only [ty] at h0
  refine aa ?_; refine a7 ?_; refine ae ?_; refine sx7 ?_; (iterate 3 refine qy ?_); refine m9 0 ?_; refine qy ?_; refine s9 ?_; refine a6 ?_; refine sx7 ?_; (iterate 3 refine qy ?_)
  refine rc rfl rfl rfl rfl rfl rfl acx (ary l ps (l.getD i default)) (CoL.refl _) rfl rfl ?_; refine qy ?_; refine a6 ?_; refine a8 _ rfl (fun r1 => ?_) (fun r1 => ?_)
  ·
   have h1 := r1
   have h1 := az h1
   have hq := az r1
   refine gy ?_; (iterate 2 refine qy ?_); refine m9 1 ?_; refine ra 2 true rfl rfl rfl rfl rfl rfl ?_; refine qy ?_; refine a6 ?_; refine gy ?_; (iterate 2 refine qy ?_); refine a6 ?_
   first | (refine ⟨i + 1, ?_, ?_, ?_⟩
            · show i + 1 ≤ _; omega
            · first | omega | (dsimp only; omega)
            · exact ⟨⟨⟨_, rfl, (ee (a09 (by assumption)))⟩, zy, c9, c9, c9, c9, trivial⟩, ⟨⟨_, rfl, (ey (a09 (by assumption)) (CoP.refl _))⟩, trivial⟩⟩)
         | (refine ⟨i + 1, ?_, ?_, ?_⟩
            · show i + 1 ≤ _; omega
            · first | omega | (dsimp only; omega)
            · exact ⟨⟨⟨_, rfl, (kn (zr (by assumption)))⟩, zy, c9, c9, c9, c9, trivial⟩, ⟨⟨_, rfl, (ig (zr (by assumption)))⟩, trivial⟩⟩)
  ·
   have h1 := r1
   have h1 := b4 h1
   have hq := b4 r1
   refine aa ?_; refine gy ?_; (iterate 2 refine qy ?_); refine a6 ?_
   first | (refine ⟨i + 1, ?_, ?_, ?_⟩
            · show i + 1 ≤ _; omega
            · first | omega | (dsimp only; omega)
            · exact ⟨⟨⟨_, rfl, (ee (a09 (by assumption)))⟩, zy, c9, c9, c9, c9, trivial⟩, ⟨⟨_, rfl, (ey (a09 (by assumption)) (CoP.refl _))⟩, trivial⟩⟩)
         | (refine ⟨i + 1, ?_, ?_, ?_⟩
            · show i + 1 ≤ _; omega
            · first | omega | (dsimp only; omega)
            · exact ⟨⟨⟨_, rfl, (kn (zr (by assumption)))⟩, zy, c9, c9, c9, c9, trivial⟩, ⟨⟨_, rfl, (ig (zr (by assumption)))⟩, trivial⟩⟩)
 ·
  have h0 := of_decide_eq_false r0
  try simp only [ty] at h0
  obtain rfl : i = l.length := by omega
  refine am ?_; refine sx7 ?_; (iterate 2 refine qy ?_); refine a6 ?_; refine bu 4 rfl rfl rfl ?_
  exact hx8 rfl rfl rfl (⟨CoC.one (CoP.refl _), trivial⟩)
theorem ahn : goodFn Tryz.prog 69 := ⟨Tryz.f69, Tryz.func69, by kernel_rfl, by kernel_rfl⟩
theorem awy (l : List Fd) (ps : List AS) (hl : l.length ≤ 16777216) : aj Tryz.prog 69 [pP (fdl l), pP (asl ps)] (aq [pB (y5 l ps)]) := by
 refine ag (nt := 10) af Tryz.func69 rfl rfl l9 ?_; refine sx7 ?_; refine qy ?_; refine a6 ?_; refine sx7 ?_; (iterate 2 refine qy ?_); refine rc rfl rfl rfl rfl rfl rfl auz (b03 l ps hl) (CoL.refl _) rfl rfl ?_
 (iterate 3 refine qy ?_); refine a6 ?_
 exact hx8 rfl rfl rfl (⟨ccb aq2, trivial⟩)
end Go.Hx
end
