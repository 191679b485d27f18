/- A part of the proof: V14 Hx24 Cs17 V15 Cs18 V16 Cs19. -/
import Derived.Test.YtidophngianjiaaGreatDoor6x15
import Derived.Test.YtidophngianjiaaGreatDoor6x21
set_option linter.all false
section
namespace Go.Hx
open Go.Proofs
set_option maxRecDepth 100000
theorem a4w : goodFn Tryz.prog 62 := ⟨Tryz.f62, Tryz.func62, by kernel_rfl, by kernel_rfl⟩
theorem a8r (l : List Fd) (p : AS) : ah Tryz.prog 62 [pP (fdl l), pA p] (ap [(gq l p).pc, pB (bz l p)]) := by
 refine ag (nt := 36) af Tryz.func62 rfl rfl l9 ?_; refine sx7 ?_; refine m9 0 ?_; refine qy ?_; refine a6 ?_; refine a7 ?_; refine sx7 ?_; refine qy ?_
 refine rc rfl rfl rfl rfl rfl rfl ai6 (aza p) (CoL.refl _) rfl rfl ?_; (iterate 2 refine qy ?_); refine a6 ?_; refine ae ?_
 refine aj (ι := Nat) ⟨[(0, some _), (1, some _), (4, some _), (10, some _), (11, some _)], [(0, some _)]⟩ ⟨⟨c9, c9, c9, c9, c9, trivial⟩, ⟨u9, trivial⟩⟩ (fun i => ⟨[(12, some (vI i))], []⟩) (fun i => i ≤ (d3 p).length ∧ (∀ j, j < i → lh l p ((d3 p).getD j default) = false)) (fun i => (d3 p).length - i) (0) (⟨Nat.zero_le _, bt⟩) ⟨⟨zy, trivial⟩, trivial⟩ ?_
 rintro i ⟨hi, hI⟩
 have hlen := a0d p
 refine sx7 ?_; refine qy ?_; refine a6 ?_; refine a7 ?_; refine a8 _ rfl (fun r0 => ?_) (fun r0 => ?_)
 ·
  have h0 := of_decide_eq_true r0
  try simp only [ty] at h0
  refine aa ?_; refine a7 ?_; refine ae ?_; refine sx7 ?_; (iterate 3 refine qy ?_); refine a6 ?_; refine sx7 ?_; (iterate 2 refine qy ?_)
  refine rc rfl rfl rfl rfl rfl rfl a0k (a4t l ((d3 p).getD i default)) (CoL.refl _) rfl rfl ?_; (iterate 3 refine qy ?_); refine a6 ?_; refine sx7 ?_; (iterate 4 refine qy ?_)
  refine bg rfl rfl (fun r1 => ?_) (fun r1 => ?_)
  ·
   have h1 := r1
   have h1 := of_decide_eq_false (ay h1)
   try simp only [ty] at h1
   (iterate 3 refine qy ?_ (hg := (gtt r1))); refine qy ?_; refine a6 ?_; refine a8 _ rfl (fun r2 => ?_) (fun r2 => ?_)
   ·
    have h2 := r2
    have h2 := d9 r1 h2
    have h2 := of_decide_eq_false (ay h2)
    try simp only [ty] at h2
    refine sx7 ?_; (iterate 5 refine qy ?_); refine s9 ?_; refine qy ?_; refine a6 ?_
    exact hx8 rfl rfl rfl (⟨adg (i := i) (by omega) hI (a47 h1 h2) rfl rfl, ccb (ab0 (i := i) (by omega) hI (a47 h1 h2)).2.symm, trivial⟩)
   ·
    have h2 := r2
    have h2 := d9 r1 h2
    have h2 := of_decide_eq_true (ax h2)
    try simp only [ty] at h2
    refine aa ?_; refine gy ?_; (iterate 2 refine qy ?_); refine a6 ?_; refine ⟨i + 1, ?_, ?_, ?_⟩
    · exact ⟨by show i + 1 ≤ _; omega, bd hI (by first | exact a4r h1 | exact a48 h2)⟩
    · first | omega | (dsimp only; omega)
    · exact ⟨⟨zy, c9, c9, c9, c9, c9, trivial⟩, ⟨u9, trivial⟩⟩
  ·
   have h1 := r1
   have h1 := of_decide_eq_true (ax h1)
   try simp only [ty] at h1
   (iterate 3 refine k9 (gft r1) ?_); refine rq rfl rfl rfl rfl rfl ?_ (hp := r1); refine a6 ?_; refine a8 _ rfl (fun e => by cases e) (fun _ => ?_); refine aa ?_; refine gy ?_; (iterate 2 refine qy ?_)
   refine a6 ?_; refine ⟨i + 1, ?_, ?_, ?_⟩
   · exact ⟨by show i + 1 ≤ _; omega, bd hI (by first | exact a4r h1 | exact a48 h2)⟩
   · first | omega | (dsimp only; omega)
   · exact ⟨⟨zy, c9, c9, c9, c9, c9, trivial⟩, ⟨u9, trivial⟩⟩
 ·
  have h0 := of_decide_eq_false r0
  try simp only [ty] at h0
  refine al ?_; refine sx7 ?_; refine qy ?_; refine s9 ?_; refine qy ?_; refine a6 ?_
  exact hx8 rfl rfl rfl (⟨aav (fun j hj => hI j (by omega)), ccb (ab1 (fun j hj => hI j (by omega))).2.symm, trivial⟩)
theorem a6x : goodFn Tryz.prog 120 := ⟨Tryz.f120, Tryz.func120, by kernel_rfl, by kernel_rfl⟩
theorem abz (l : List Fd) (p : AS) : ah Tryz.prog 120 [pP (fdl l), pA p] (ap [(gq l p).pc, pB (bz l p)]) := by
 refine ag (nt := 48) af Tryz.func120 rfl rfl l9 ?_; refine sx7 ?_; refine m9 0 ?_; refine qy ?_; refine a6 ?_; refine sx7 ?_; refine qy ?_; refine rc rfl rfl rfl rfl rfl rfl aqc (avx p) (CoL.refl _) rfl rfl ?_
 refine qy ?_; refine a6 ?_; refine a7 ?_; refine sx7 ?_; refine qy ?_; refine a6 ?_; refine ae ?_
 refine aj (ι := Nat) ⟨[(0, some _), (1, some _), (4, some _), (6, some _)], [(0, some _)]⟩ ⟨⟨c9, c9, c9, c9, trivial⟩, ⟨u9, trivial⟩⟩ (fun i => ⟨[(7, some (vI i))], []⟩) (fun i => i ≤ (d3 p).length ∧ (∀ j, j < i → lh l p ((d3 p).getD j default) = false)) (fun i => (d3 p).length - i) (0) (⟨Nat.zero_le _, bt⟩) ⟨⟨zy, trivial⟩, trivial⟩ ?_
 rintro i ⟨hi, hI⟩
 have hlen := a0d p
 refine a7 ?_; refine sx7 ?_; (iterate 4 refine qy ?_); refine a6 ?_; refine a8 _ rfl (fun r0 => ?_) (fun r0 => ?_)
 ·
  have h0 := of_decide_eq_true r0
  try simp only [ty] at h0
  refine aa ?_; refine a7 ?_; refine ae ?_; refine sx7 ?_; (iterate 5 refine qy ?_); refine rc rfl rfl rfl rfl rfl rfl atg (atd l ((d3 p).getD i default)) (CoL.refl _) rfl rfl ?_; (iterate 3 refine qy ?_)
  refine a6 ?_; refine sx7 ?_; (iterate 7 refine qy ?_); refine bg rfl rfl (fun r1 => ?_) (fun r1 => ?_)
  ·
   have h1 := r1
   have h1 := of_decide_eq_false (ay h1)
   try simp only [ty] at h1
   (iterate 3 refine qy ?_ (hg := (gtt r1))); refine qy ?_; refine a6 ?_; refine a8 _ rfl (fun r2 => ?_) (fun r2 => ?_)
   ·
    have h2 := r2
    have h2 := d9 r1 h2
    have h2 := of_decide_eq_false (ay h2)
    try simp only [ty] at h2
    refine a7 ?_; refine aw (E := b4) af aq [0, 1, 2, 3, 4, 5, 6, 7, 8, 9, 10, 11, 12] ?_; (iterate 11 refine qy ?_); refine s9 ?_; refine qy ?_; refine a6 ?_; refine ⟨by kernel_rfl, ?_⟩
    exact hx8 rfl rfl rfl (⟨adg (i := i) (by omega) hI (a47 h1 h2) rfl rfl, ccb (ab0 (i := i) (by omega) hI (a47 h1 h2)).2.symm, trivial⟩)
   ·
    have h2 := r2
    have h2 := d9 r1 h2
    have h2 := of_decide_eq_true (ax h2)
    try simp only [ty] at h2
    refine aa ?_; refine gy ?_; (iterate 3 refine qy ?_); refine a6 ?_; refine ⟨i + 1, ?_, ?_, ?_⟩
    · exact ⟨by show i + 1 ≤ _; omega, bd hI (by first | exact a4r h1 | exact a48 h2)⟩
    · first | omega | (dsimp only; omega)
    · exact ⟨⟨zy, c9, c9, c9, c9, trivial⟩, ⟨u9, trivial⟩⟩
  ·
   have h1 := r1
   have h1 := of_decide_eq_true (ax h1)
   try simp only [ty] at h1
   (iterate 3 refine k9 (gft r1) ?_); refine rq rfl rfl rfl rfl rfl ?_ (hp := r1); refine a6 ?_; refine a8 _ rfl (fun e => by cases e) (fun _ => ?_); refine aa ?_; refine gy ?_; (iterate 3 refine qy ?_)
   refine a6 ?_; refine ⟨i + 1, ?_, ?_, ?_⟩
   · exact ⟨by show i + 1 ≤ _; omega, bd hI (by first | exact a4r h1 | exact a48 h2)⟩
   · first | omega | (dsimp only; omega)
   · exact ⟨⟨zy, c9, c9, c9, c9, trivial⟩, ⟨u9, trivial⟩⟩
 ·
  have h0 := of_decide_eq_false r0
  try simp only [ty] at h0
  refine al ?_; refine sx7 ?_; refine qy ?_; refine s9 ?_; refine qy ?_; refine a6 ?_
  exact hx8 rfl rfl rfl (⟨aav (fun j hj => hI j (by omega)), ccb (ab1 (fun j hj => hI j (by omega))).2.symm, trivial⟩)
theorem awj : goodFn Tryz.prog 67 := ⟨Tryz.f67, Tryz.func67, by kernel_rfl, by kernel_rfl⟩
theorem aup (l : List Fd) (p : AS) : ah Tryz.prog 67 [pP (fdl l), pA p] (ap [pB (!bz l p)]) := by
 refine ag (nt := 15) af Tryz.func67 rfl rfl l9 ?_; refine sx7 ?_; refine qy ?_; refine a6 ?_; refine sx7 ?_; (iterate 2 refine qy ?_); refine rc rfl rfl rfl rfl rfl rfl a6x (abz l p) (CoL.refl _) rfl rfl ?_
 (iterate 3 refine qy ?_); refine m9 0 ?_; refine s9 ?_; refine qy ?_; refine a6 ?_; refine sx7 ?_; (iterate 3 refine qy ?_); refine a6 ?_
 exact hx8 rfl rfl rfl (CoL.refl _)
end Go.Hx
end
section
namespace Go.Hx
open Go.RowKit
section
variable {w0 : World} {nt : Nat} {c : Ctx} {s : S} {a : Act} {w : World}
theorem ar.short (h : ar w0 nt c s a w) {id id' sz n m : Nat} {el : TypeId} {f : Nat → Nat → PV} (ho : s.o id = some (.arr true sz el n f)) (hm : m ≤ n) (hnm : NM s id') (hno : s.o id' = none) {u : Value} (hu : bn c s.o (.win id n 0 m) u) :
 ∃ c', c'.old = c.old ∧ ar w0 nt c' ((s.setO id none).setO id' (some (.arr true sz el m f))) a w ∧ au c' ((s.setO id none).setO id' (some (.arr true sz el m f))).o (.v (.one (.ref id' m))) u := by
 have hne : id ≠ id' := fun e => by rw [← e, ho] at hno; cases hno
 obtain ⟨ad, ad', cap, q1, q2, q3, q4, q5, q6⟩ := vw hu ho rfl
 obtain ⟨h0, h1, h5⟩ := h.objs id _ ho
 have hold : ∀ k ob, ((s.setO id none).setO id' (some (.arr true sz el m f))).o k = some ob → k ≠ id' → s.o k = some ob ∧ k ≠ id := fun k ob hk hk' => by
  simp only [S.setO, if_neg hk'] at hk
  by_cases hki : k = id
  · subst hki; simp at hk
  · rw [if_neg hki] at hk; exact ⟨hk, hki⟩
 obtain ⟨bk, hbk, hok⟩ : ∃ bk : Nat → Prop, (∀ b, bk b → c.blk id b) ∧ ∀ c' : Ctx, c'.imm = c.imm → c'.own id' = u → c'.blk id' = bk → ∀ o' : b7, dg 0 c' o' w id' (.arr true sz el m f) := by
  rcases h5 with ⟨h6, xs, h2, h4⟩ | ⟨h6 | h6, h7, h8⟩
  · obtain ⟨hxl, hrow⟩ := h2
    rcases hrow with ⟨hv0, hz⟩ | ⟨g, cap', cur, hown, hbase, hheap, hnc, hcm, hcs, htake⟩
    · rw [hv0] at q1
      simp only [Value.slice.injEq] at q1
      obtain ⟨rfl, _, rfl⟩ := q1
      obtain rfl : n = 0 := by omega
      obtain rfl : m = 0 := by omega
      refine ⟨noB, fun b hb => hb.elim, fun c' e1 e2 e3 o' => ⟨h0, Nat.zero_le _, .inr ⟨.inr rfl, e3, ?_⟩⟩⟩
      rw [e2, q2]
      exact ⟨ad', 0, rfl, Nat.le_refl _, Nat.zero_le _, fun _ => rfl, fun h => absurd h (Nat.lt_irrefl 0)⟩
    · rw [hown] at q1
      simp only [Value.slice.injEq, true_and] at q1
      obtain ⟨rfl, rfl⟩ := q1
      by_cases hcap : cap' = 0
      · subst hcap
        obtain rfl : m = 0 := by omega
        refine ⟨noB, fun b hb => hb.elim, fun c' e1 e2 e3 o' => ⟨h0, Nat.zero_le _, .inr ⟨.inr rfl, e3, ?_⟩⟩⟩
        rw [e2, q2]
        exact ⟨ad', 0, rfl, Nat.le_refl _, Nat.zero_le _, fun _ => rfl, fun h => absurd h (Nat.lt_irrefl 0)⟩
      · obtain rfl := q6 (by omega)
        simp only [Option.map_some, cu, Nat.zero_mul, Nat.add_zero, Nat.sub_zero] at q2
        have hmul : m * sz ≤ n * sz := Nat.mul_le_mul_right _ hm
        refine ⟨ge u, fun b hb => by rw [h6, hown]; rw [q2] at hb; exact hb, fun c' e1 e2 e3 o' => ⟨h0, Nat.le_trans hm h1, .inl ⟨by rw [e2, e3], xs.take (m * sz), ⟨by rw [List.length_take, hxl, Nat.min_eq_left hmul], .inr ⟨g, cap', cur, by rw [e2, q2], hbase, hheap, by omega, hcm, hcs, ?_⟩⟩, fun i j hi hj => ?_⟩⟩⟩
        · rw [← htake, List.take_take, Nat.min_eq_left hmul]
        · obtain ⟨x, hx, hr⟩ := h4 i j (by omega) hj
          refine ⟨x, ?_, by rw [e1]; exact hr⟩
          rw [List.getElem?_take, if_pos (vb hi hj)]
          exact hx
  · cases h6
  · subst h6
    obtain rfl : m = 0 := by omega
    refine ⟨noB, fun b hb => hb.elim, fun c' e1 e2 e3 o' => ⟨h0, Nat.zero_le _, .inr ⟨.inr rfl, e3, ?_⟩⟩⟩
    obtain ⟨ad2, cap2, r1, r2, r3, r4, _⟩ := h8
    rw [q1] at r1
    simp only [Value.slice.injEq, true_and] at r1
    obtain ⟨rfl, rfl⟩ := r1
    obtain rfl : cap = 0 := r4 rfl
    rw [e2, q2]
    exact ⟨ad', 0, rfl, Nat.le_refl _, Nat.zero_le _, fun _ => rfl, fun h => absurd h (Nat.lt_irrefl 0)⟩
 have hevo : ∀ k, k ≠ id' → Evo c s.o { c with own := fun k => if k = id' then u else c.own k, blk := fun k => if k = id' then bk else c.blk k } ((s.setO id none).setO id' (some (.arr true sz el m f))).o k := fun k hk => by
  by_cases hki : k = id
  · subst hki
    exact .inl (by simp [S.setO, hk])
  · exact Evo.of_same (by simp [S.setO, hk, hki]) (by simp [hk])
 refine ⟨{ c with own := fun k => if k = id' then u else c.own k, blk := fun k => if k = id' then bk else c.blk k }, rfl, ⟨h.defers, h.size, h.below, fun d x hx => ?_, fun k ob hk => ?_, fun i i' obi obi' b hi hi' hb hb' => ?_, h.imm, fun k ob b hk hb => ?_, h.was, h.frm, fun k ob b hk hb => ?_, fun k hk => ?_⟩, ?_⟩
 · exact (h.tmps d x hx).evo (Imm.le.refl c.imm) fun k hkm => hevo k (by rintro rfl; exact hnm.1 d x hx hkm)
 · by_cases hk' : k = id'
   · subst hk'
     obtain rfl : ob = .arr true sz el m f := by simpa [S.setO] using hk.symm
     refine hok _ ?_ ?_ ?_ _ <;> first | rfl | exact if_pos rfl
   · obtain ⟨hk1, hk2⟩ := hold k ob hk hk'
     exact (h.objs k ob hk1).keep (Imm.le.refl c.imm) (by simp [hk']) (by simp [hk']) (fun j hj => hevo j (by rintro rfl; exact hnm.2.1 k ob hk1 hj)) fun b _ => rfl
 · have hone : ∀ k ob b, k ≠ id' → ((s.setO id none).setO id' (some (.arr true sz el m f))).o k = some ob → c.blk k b → bk b → False := fun k ob b hk' hk hb hbb => by
    obtain ⟨hk1, hk2⟩ := hold k ob hk hk'
    exact hk2 (h.inj k id ob _ b hk1 ho hb (hbk b hbb))
   by_cases e1 : i = id'
   · by_cases e2 : i' = id'
     · rw [e1, e2]
     · exact (hone i' obi' b e2 hi' (by simpa [e2] using hb') (by simpa [e1] using hb)).elim
   · by_cases e2 : i' = id'
     · exact (hone i obi b e1 hi (by simpa [e1] using hb) (by simpa [e2] using hb')).elim
     · exact h.inj i i' obi obi' b (hold i obi hi e1).1 (hold i' obi' hi' e2).1 (by simpa [e1] using hb) (by simpa [e2] using hb')
 · by_cases hk' : k = id'
   · exact h.sep id _ b ho (hbk b (by simpa [hk'] using hb))
   · exact h.sep k ob b (hold k ob hk hk').1 (by simpa [hk'] using hb)
 · by_cases hk' : k = id'
   · exact h.fsep id _ b ho (hbk b (by simpa [hk'] using hb))
   · exact h.fsep k ob b (hold k ob hk hk').1 (by simpa [hk'] using hb)
 · exact (h.fixed k hk).trans (hevo k (by have := hnm.2.2; omega))
 · refine ⟨hu.1, fun l => by simp [S.setO], fun ob2 s2 e2 n2 ho2 hd2 => ?_⟩
   simp only [S.setO, if_true, Option.some.injEq] at ho2
   subst ho2
   simp only [ai.dim, Option.some.injEq, Prod.mk.injEq] at hd2
   obtain ⟨rfl, rfl, rfl⟩ := hd2
   exact ⟨Nat.le_refl _, fun _ => by simp⟩
end
section
variable {ro : Option Nat} {P : Program} {nt : Nat} {st : HSt} {Q : Exit → HSt → Prop}
theorem a8y {c : Code} (d id2 : Nat) {id n n' i m s : Nat} {e : TypeId} {f : Nat → Nat → PV} (hd : bo st.t d = some (.v (.one (.win id n i m)))) (ho : bo st.o id = some (.arr true s e n' f)) (hn : n' = n) (hi : i = 0) (hm : m ≤ n) (hnew : nx id2 st = true)
 (h : HW (ro := ro) P nt c ⟨(d, some (.v (.one (.ref id2 m)))) :: st.t, (id2, some (.arr true s e m f)) :: (id, none) :: st.o⟩ Q) : HW (ro := ro) P nt c st Q := by
 subst hn hi
 obtain ⟨hnm, hno⟩ := j8 hnew
 refine th ⟨st.t, (id2, some (.arr true s e m f)) :: (id, none) :: st.o⟩ d (.v (.one (.ref id2 m))) (fun w0 m0 a w hr => ?_) h
 obtain ⟨cc, hold, hrr⟩ := hr
 obtain ⟨c', e1, e2, e3⟩ := hrr.short ho hm hnm hno (hrr.tmps d _ hd)
 have e4 : (HSt.den ⟨st.t, (id2, some (.arr true s e m f)) :: (id, none) :: st.o⟩) = (st.den.setO id none).setO id2 (some (.arr true s e m f)) := by
  unfold HSt.den S.setO
  simp [br]
 exact ⟨c', e1.trans hold, by rw [e4]; exact e2, by rw [e4]; exact e3⟩
theorem nk {c : Code} (d id2 : Nat) {id n n' s : Nat} {e : TypeId} {f : Nat → Nat → PV} (hd : bo st.t d = some (.v (.one (.ref id n)))) (ho : bo st.o id = some (.arr true s e n' f)) (hn : n' = n) (hnew : nx id2 st = true)
 (h : HW (ro := ro) P nt c ⟨(d, some (.v (.one (.ref id2 n)))) :: st.t, (id2, some (.arr true s e n f)) :: (id, none) :: st.o⟩ Q) : HW (ro := ro) P nt c st Q := by
 subst hn
 obtain ⟨hnm, hno⟩ := j8 hnew
 refine th ⟨st.t, (id2, some (.arr true s e n' f)) :: (id, none) :: st.o⟩ d (.v (.one (.ref id2 n'))) (fun w0 m0 a w hr => ?_) h
 obtain ⟨cc, hold, hrr⟩ := hr
 have hu : bn cc st.den.o (.ref id n') (a.tmps.getD d undef) := hrr.tmps d _ hd
 have hw : bn cc st.den.o (.win id n' 0 n') (a.tmps.getD d undef) := by
  refine ⟨hu.1, hu.2.1, fun ob s2 e2 n2 ho2 hd2 => ⟨(hu.2.2 _ _ _ _ ho2 hd2).1, fun hk => ?_⟩⟩
  have he := (hu.2.2 _ _ _ _ ho2 hd2).2 hk
  obtain rfl : ob = .arr true s e n' f := Option.some.inj (ho2.symm.trans ho)
  simp only [ai.dim, Option.some.injEq, Prod.mk.injEq] at hd2
  obtain ⟨rfl, rfl, rfl⟩ := hd2
  obtain ⟨ad, cap, hv, hc1, hc2⟩ := a1i (hrr.objs _ _ ho2)
  exact ⟨ad, ad, cap, hv, by rw [he, hv]; rfl, by omega, hc1, hc2, fun _ => by cases ad <;> simp [yf]⟩
 obtain ⟨c', e1, e2, e3⟩ := hrr.short ho (Nat.le_refl _) hnm hno hw
 have e4 : (HSt.den ⟨st.t, (id2, some (.arr true s e n' f)) :: (id, none) :: st.o⟩) = (st.den.setO id none).setO id2 (some (.arr true s e n' f)) := by
  unfold HSt.den S.setO
  simp [br]
 exact ⟨c', e1.trans hold, by rw [e4]; exact e2, by rw [e4]; exact e3⟩
end
end Go.Hx
end
section
namespace Go.Hx
theorem ab3 {l : List AS} {k : Nat} (hk : l.length ≤ k) (h : ∀ j, 0 < j → j < k → ¬ l.getD j default = l.getD (j - 1) default) : gh l = l := by
 have := ow (Nat.le_refl l.length) fun j h1 h2 => h j h1 (by omega)
 rw [List.take_length] at this
 exact this
theorem a89 {l m : List AS} {k p q : Nat} (hC : CpI l k p q m) (hq : ¬ q < l.length) : (gh l).length = p ∧ m.take p = gh l := by
 have e := hC.pre
 have h1 := hC.ql
 have h2 := hC.len
 have h3 := hC.pq
 rw [show q = l.length by omega, List.take_length] at e
 exact ⟨by rw [← e]; simp; omega, e⟩
theorem ar6 {l m : List AS} {k p q n a d : Nat} {z : List Value} {e : TypeId} (hC : CpI l k p q m) (hq : ¬ q < l.length) (ha : p ≤ a) (hn : n = p) : CoO (.arr true 1 e n (kj (lf sC m) a d z)) (.arr true 1 e (gh l).length (lf sC (gh l))) := by
 obtain ⟨h1, h2⟩ := a89 hC hq
 subst hn
 refine ⟨fun h => h, rfl, rfl, h1, fun i j hi hj => CoP.of_eq ?_⟩
 show kj (lf sC m) a d z i j = lf sC (gh l) i j
 unfold kj
 rw [if_neg (by omega)]
 simp only [lf, List.getD]
 have e : (gh l)[i]? = m[i]? := by rw [← h2, List.getElem?_take, if_pos hi]
 rw [e]
theorem kp {id n m : Nat} (h : n = m) : CoR (.v (.one (.ref id n))) (.v (.one (.ref id m))) := by rw [h]; exact CoR.refl _
end Go.Hx
end
section
namespace Go.Hx
open Go.Proofs
set_option maxRecDepth 100000
theorem akm (l : List AS) : cz Tryz.prog 114 [.one (.ref 900 l.length)] [(900, .arr true 1 38 l.length (lf sC l))] (.v (.one (.ref 901 (gh l).length))) [(901, .arr true 1 38 (gh l).length (lf sC (gh l)))] [] := by
 refine ek (nt := 61) af Tryz.func114 rfl rfl l9 rfl ?_; refine a7 ?_
 refine a3z 900 rfl fun hlen => ?_
 refine gy ?_; refine qy ?_; refine a6 ?_; refine a7 ?_; refine sx7 ?_; (iterate 3 refine qy ?_); refine a6 ?_; refine a8 _ rfl (fun r0 => ?_) (fun r0 => ?_)
 ·
  have h0 := of_decide_eq_true r0
  try simp only [ty] at h0
  refine sx7 ?_; (iterate 2 refine qy ?_); refine a6 ?_; refine nk 2 901 rfl rfl rfl rfl ?_; refine am ?_; refine ⟨.inr rfl, ?_⟩
  have he := ab3 (l := l) (k := l.length) (Nat.le_refl _) (fun j h1 h2 => by omega)
  exact ⟨_, _, rfl, (by (repeat' apply And.intro) <;> first | trivial | exact Nat.le_of_ble_eq_true rfl), kp (by rw [he]), ⟨⟨_, rfl, er he (by rw [he])⟩, trivial⟩⟩
 ·
  have h0 := of_decide_eq_false r0
  try simp only [ty] at h0
  refine aa ?_; refine a7 ?_; refine sx7 ?_; refine qy ?_; refine a6 ?_; refine ae ?_
  refine aj (ι := Nat) ⟨[(0, some _)], [(900, some _)]⟩ ⟨⟨c9, trivial⟩, ⟨u9, trivial⟩⟩ (fun k => ⟨[(3, some (vI k))], []⟩) (fun k => 1 ≤ k ∧ k ≤ l.length ∧ ∀ j, 0 < j → j < k → ¬ l.getD j default = l.getD (j - 1) default) (fun k => l.length - k) (1) (⟨Nat.le_refl _, by omega, fun j h1 h2 => by omega⟩) ⟨⟨zy, trivial⟩, trivial⟩ ?_
  rintro k ⟨hk1, hk, hI⟩
  refine a7 ?_; refine sx7 ?_; (iterate 4 refine qy ?_); refine a6 ?_; refine a8 _ rfl (fun r1 => ?_) (fun r1 => ?_)
  ·
   have h1 := of_decide_eq_true r1
   try simp only [ty] at h1
   refine aa ?_; refine a7 ?_; refine ae ?_; refine a7 ?_; refine aw (E := b4) af aq [0, 1, 2, 3, 4, 5, 6, 7, 8, 9] ?_; (iterate 10 refine qy ?_); refine a6 ?_; refine ⟨by kernel_rfl, ?_⟩
   refine a8 _ rfl (fun r2 => ?_) (fun r2 => ?_)
   ·
    have h2 := of_decide_eq_true r2
    try simp only [ty] at h2
    refine sx7 ?_; (iterate 4 refine qy ?_); refine a6 ?_; refine a7 ?_; refine sx7 ?_; refine qy ?_; refine a6 ?_; refine ae ?_
    refine aj (ι := Nat × Nat × List AS) ⟨[(0, some _), (4, some _)], []⟩ ⟨⟨c9, c9, trivial⟩, trivial⟩ (fun x => ⟨[(3, some (vI x.1)), (5, some (vI ((x.2.1 : Int) - k)))], [(900, some (.arr true 1 38 l.length (lf sC x.2.2)))]⟩) (fun x => CpI l k x.1 x.2.1 x.2.2) (fun x => l.length - x.2.1) ((k, k + 1, l)) (CpI.start hk1 (by omega) hI (rz (by assumption) rfl (by omega))) ⟨⟨zy, ⟨_, rfl, (coi (by first | rfl | (dsimp only; omega)))⟩, trivial⟩, ⟨u9, trivial⟩⟩ ?_
    rintro ⟨p, q, m⟩ hC
    have hC0 := hC
    obtain ⟨hml, hkq, hpq, hql, _, _⟩ := hC0
    dsimp only at hC hml hkq hpq hql
    refine a7 ?_; refine sx7 ?_; (iterate 4 refine qy ?_); refine a6 ?_; refine a8 _ rfl (fun r3 => ?_) (fun r3 => ?_)
    ·
     have h3 := of_decide_eq_true r3
     try simp only [ty] at h3
     simp only [dx, bc, Int.toNat_natCast] at h3
     refine aa ?_; refine a7 ?_; refine ae ?_; refine a7 ?_; refine aw (E := b4) af aq [0, 1, 2, 3, 4, 5, 6, 7, 8, 9] ?_; (iterate 10 refine qy ?_); refine a6 ?_
     refine ⟨by kernel_rfl, ?_⟩; refine a8 _ rfl (fun r4 => ?_) (fun r4 => ?_)
     ·
      have h4 := r4
      have h4 := of_decide_eq_false (ay h4)
      try simp only [ty] at h4
      refine sx7 ?_; (iterate 7 refine qy ?_); refine s9 ?_; refine a6 ?_; refine gy ?_; (iterate 3 refine qy ?_); refine a6 ?_; refine gy ?_; (iterate 3 refine qy ?_); refine a6 ?_
      first | (refine ⟨(p + 1, q + 1, m.set p (m.getD q default)), ?_, ?_, ?_⟩
               · exact hC.keep (by omega) (rj (by assumption) (by simp only [bc]; omega) (by simp only [bc]; omega))
               · first | omega | (dsimp only; omega)
               · exact ⟨⟨⟨_, rfl, (coi (by first | rfl | (dsimp only; omega)))⟩, ⟨_, rfl, (coi (by first | rfl | (dsimp only; omega)))⟩, c9, c9, trivial⟩, ⟨⟨_, rfl, (nc id hml.symm (by omega) (by dsimp only; omega) (by simp only [bc]; omega))⟩, trivial⟩⟩)
            | (refine ⟨(p, q + 1, m), ?_, ?_, ?_⟩
               · exact hC.skip (by omega) (rz (by assumption) (by simp only [bc]; omega) (by simp only [bc]; omega))
               · first | omega | (dsimp only; omega)
               · exact ⟨⟨⟨_, rfl, (coi (by first | rfl | (dsimp only; omega)))⟩, ⟨_, rfl, (coi (by first | rfl | (dsimp only; omega)))⟩, c9, c9, trivial⟩, ⟨u9, trivial⟩⟩)
     ·
      have h4 := r4
      have h4 := of_decide_eq_true (ax h4)
      try simp only [ty] at h4
      refine aa ?_; refine gy ?_; (iterate 3 refine qy ?_); refine a6 ?_
      first | (refine ⟨(p + 1, q + 1, m.set p (m.getD q default)), ?_, ?_, ?_⟩
               · exact hC.keep (by omega) (rj (by assumption) (by simp only [bc]; omega) (by simp only [bc]; omega))
               · first | omega | (dsimp only; omega)
               · exact ⟨⟨⟨_, rfl, (coi (by first | rfl | (dsimp only; omega)))⟩, ⟨_, rfl, (coi (by first | rfl | (dsimp only; omega)))⟩, c9, c9, trivial⟩, ⟨⟨_, rfl, (nc id hml.symm (by omega) (by dsimp only; omega) (by simp only [bc]; omega))⟩, trivial⟩⟩)
            | (refine ⟨(p, q + 1, m), ?_, ?_, ?_⟩
               · exact hC.skip (by omega) (rz (by assumption) (by simp only [bc]; omega) (by simp only [bc]; omega))
               · first | omega | (dsimp only; omega)
               · exact ⟨⟨⟨_, rfl, (coi (by first | rfl | (dsimp only; omega)))⟩, ⟨_, rfl, (coi (by first | rfl | (dsimp only; omega)))⟩, c9, c9, trivial⟩, ⟨u9, trivial⟩⟩)
    ·
     have h3 := of_decide_eq_false r3
     try simp only [ty] at h3
     simp only [dx, bc, Int.toNat_natCast] at h3
     refine al ?_; refine sx7 ?_; (iterate 3 refine qy ?_); refine ra 0 true rfl rfl rfl rfl rfl rfl ?_; refine a6 ?_; refine sx7 ?_; (iterate 4 refine qy ?_); refine a6 ?_
     refine a8y 2 901 rfl rfl rfl rfl (by simp only [dx, bc, Int.toNat_natCast]; omega) rfl ?_; refine am ?_; refine ⟨.inr rfl, ?_⟩
     have he := (a89 hC (by omega)).1
     exact ⟨_, _, rfl, (by (repeat' apply And.intro) <;> first | trivial | exact Nat.le_of_ble_eq_true rfl), kp (by rw [he]; simp [dx, bc]), ⟨⟨_, rfl, ar6 hC (by omega) (by simp [bc]) (by simp [dx, bc])⟩, trivial⟩⟩
   ·
    have h2 := of_decide_eq_false r2
    try simp only [ty] at h2
    refine aa ?_; refine gy ?_; (iterate 3 refine qy ?_); refine a6 ?_; refine ⟨k + 1, ?_, ?_, ?_⟩
    · refine ⟨by omega, by show k + 1 ≤ _; omega, fun j h1 h2 => ?_⟩
      rcases Nat.lt_or_eq_of_le (Nat.le_of_lt_succ h2) with h | h
      · exact hI j h1 h
      · subst h
        exact rj (by assumption) rfl (by omega)
    · first | omega | (dsimp only; omega)
    · exact ⟨⟨zy, c9, trivial⟩, ⟨u9, trivial⟩⟩
  ·
   have h1 := of_decide_eq_false r1
   try simp only [ty] at h1
   refine al ?_; refine sx7 ?_; (iterate 2 refine qy ?_); refine a6 ?_; refine nk 2 901 rfl rfl rfl rfl ?_; refine am ?_; refine ⟨.inr rfl, ?_⟩
   have he := ab3 (l := l) (k := k) (by omega) hI
   exact ⟨_, _, rfl, (by (repeat' apply And.intro) <;> first | trivial | exact Nat.le_of_ble_eq_true rfl), kp (by rw [he]), ⟨⟨_, rfl, er he (by rw [he])⟩, trivial⟩⟩
theorem atl (l : List AS) (hl : l.length ≤ 8589934592) : cz Tryz.prog 56 [.one (.p (asl l))] [] (.v (.one (.ref 901 (ord l).length))) [(901, .arr true 1 38 (ord l).length (lf sC (ord l)))] [] := by
 refine ek (nt := 10) af Tryz.func56 rfl rfl l9 rfl ?_; refine sx7 ?_; refine qy ?_; refine a6 ?_; refine sx7 ?_; refine qy ?_
 refine bw rfl rfl rfl rfl rfl rfl a0e (vm l.length false (lf sC l) (by omega)) (dn.refl _) trivial rfl rfl ?_; refine qy ?_; refine a6 ?_; refine sx7 ?_; refine qy ?_
 refine bw rfl rfl rfl rfl rfl rfl ae2 (apf 0 _ l hl) (dn.refl _) ⟨u9, trivial⟩ rfl rfl ?_; refine a6 ?_; refine sx7 ?_; refine qy ?_
 refine bw rfl rfl rfl rfl rfl rfl aen ((akm (srt l)).swap 900 0) (⟨congrArg (HV.ref 0) (a0p l).symm, trivial⟩) ⟨⟨_, rfl, er rfl (a0p l).symm⟩, trivial⟩ rfl rfl ?_; refine qy ?_; refine a6 ?_
 refine am ?_; refine ⟨.inr rfl, ?_⟩
 exact ⟨_, _, rfl, (by (repeat' apply And.intro) <;> first | trivial | exact Nat.le_of_ble_eq_true rfl), kp (by rw [y5]), ⟨⟨_, rfl, er (y5 _).symm (by rw [y5])⟩, trivial⟩⟩
theorem avs (s : AS) : cz Tryz.prog 53 [.one (.p (asC s))] [] (.v (.one (.ref 901 (d3 s).length))) [(901, .arr true 1 38 (d3 s).length (lf sC (d3 s)))] [] := by
 refine ek (nt := 23) af Tryz.func53 rfl rfl l9 rfl ?_; refine sx7 ?_; refine qy ?_; refine a6 ?_; refine a7 ?_; refine sx7 ?_; refine qy ?_
 refine rc rfl rfl rfl rfl rfl rfl vk (a4c s) (CoL.refl _) rfl rfl ?_; refine qy ?_; refine a6 ?_; refine a8 _ rfl (fun r0 => ?_) (fun r0 => ?_)
 ·
  have h0 := of_decide_eq_true r0
  try simp only [ty] at h0
  refine sx7 ?_; refine qy ?_; refine a6 ?_; refine dl 2 901 true 1 38 (lf sC []) (by decide) rfl (CoP.sl rfl (.inr rfl) (fun h => h) (fun i j hi _ => absurd hi (Nat.not_lt_zero i))) (.inr rfl) rfl ?_; refine am ?_
  refine ⟨.inr rfl, ?_⟩
  exact ⟨_, _, rfl, (by (repeat' apply And.intro) <;> first | trivial | exact Nat.le_of_ble_eq_true rfl), kp (by rw [wk h0]; rfl), ⟨⟨_, rfl, er (wk h0) (by rw [wk h0]; rfl)⟩, trivial⟩⟩
 ·
  have h0 := of_decide_eq_false r0
  try simp only [ty] at h0
  refine aa ?_; refine sx7 ?_; refine qy ?_; refine m9 0 ?_; refine qy ?_; refine a6 ?_; refine a7 ?_; refine sx7 ?_; (iterate 2 refine qy ?_); refine a6 ?_; refine ae ?_
  refine aj (ι := List AS × AS) ⟨[(0, some _)], []⟩ ⟨⟨c9, trivial⟩, trivial⟩ (fun y => ⟨[(3, some (.v (.one (.ref 0 y.1.length)))), (4, some (vA y.2))], [(0, some (.arr true 1 38 y.1.length (lf sC y.1)))]⟩) (fun y => a12 s y) (fun y => y.2.toNat) (([s], s)) (a85 s) ⟨⟨zy, zy, trivial⟩, ⟨⟨_, rfl, (xq (CoP.refl _))⟩, trivial⟩⟩ ?_
  rintro y hy
  have hlen := hy.2.1
  have hsl := s.isLt
  refine a7 ?_; refine sx7 ?_; (iterate 2 refine qy ?_); refine a6 ?_; refine a8 _ rfl (fun r1 => ?_) (fun r1 => ?_)
  ·
   have h1 := r1
   have h1 := of_decide_eq_false (ay h1)
   try simp only [ty] at h1
   have hne : y.2 ≠ 0 := fun e => h1 (by rw [e]; rfl)
   refine aa ?_; refine ae ?_; refine sx7 ?_; refine qy ?_; refine rq rfl rfl rfl rfl rfl ?_ (hp := (a36 hne)); (iterate 3 refine qy ?_); refine a6 ?_; refine gy ?_; (iterate 2 refine qy ?_); refine m9 1 ?_
   refine ra 2 true rfl rfl rfl rfl rfl rfl ?_; refine qy ?_; refine a6 ?_; refine ⟨(y.1 ++ [(y.2 - 1) &&& s], (y.2 - 1) &&& s), ?_, ?_, ?_⟩
   · exact a7i hy hne
   · exact s5 hne
   · exact ⟨⟨⟨_, rfl, (ej rfl)⟩, ⟨_, rfl, (nz (xd hne))⟩, c9, trivial⟩, ⟨⟨_, rfl, (f0 rfl (CoP.of_eq (by rw [xd hne]; rfl)))⟩, trivial⟩⟩
  ·
   have h1 := r1
   have h1 := of_decide_eq_true (ax h1)
   try simp only [ty] at h1
   have hz : y.2 = 0 := d4.1 h1
   refine al ?_; refine a7 ?_; refine bs 3 rfl rfl rfl ?_; refine gy ?_; refine qy ?_; refine bw rfl rfl rfl rfl rfl rfl aca (atl y.1 (by omega)) (dn.refl _) trivial rfl rfl ?_; refine qy ?_
   refine a6 ?_; refine am ?_; refine ⟨.inr rfl, ?_⟩
   have he := (ab5 hy hz).trans (a5h h0).symm
   exact ⟨_, _, rfl, (by (repeat' apply And.intro) <;> first | trivial | exact Nat.le_of_ble_eq_true rfl), kp (by rw [he]), ⟨⟨_, rfl, er he.symm (by rw [he])⟩, trivial⟩⟩
end Go.Hx
end
section
namespace Go.Hx
def mw (l : List Fd) (p : AS) : Int := if c8 16 l = 0 then (if 8 < bsz p then 3 else if p >>> 16 = 0 then 0 else 1) else c8 16 l
def ut (l : List Fd) (p : AS) : Fd := if mw l p = 0 then gq l p else ⟨0, 0⟩
def pl (l : List Fd) (p : AS) : Bool := decide (mw l p = 0) && bz l p
theorem zp {f : Fd} (h : f = ⟨0, 0⟩) : CoC (.agg [jf (.int .u32 0), jf (.int .u32 0)]) f.pc := CoC.of_eq (by rw [h]; rfl)
theorem axz {a b : Fd} (h : a = b) : CoC a.pc b.pc := CoC.of_eq (by rw [h])
theorem avz {l : List Fd} {p : AS} (h : ¬ c8 16 l = 0) : mw l p = c8 16 l ∧ ut l p = ⟨0, 0⟩ ∧ pl l p = false := by
 have e : mw l p = c8 16 l := if_neg h
 unfold ut pl
 rw [e]
 exact ⟨rfl, if_neg h, by rw [decide_eq_false h]; rfl⟩
theorem av6 {l : List Fd} {p : AS} (h : c8 16 l = 0) (h2 : (8 : Int) < bsz p) : mw l p = 3 ∧ ut l p = ⟨0, 0⟩ ∧ pl l p = false := by
 have e : mw l p = 3 := by unfold mw; rw [if_pos h, if_pos (by omega)]
 unfold ut pl
 rw [e]
 exact ⟨rfl, rfl, rfl⟩
theorem abf {p : AS} {n : Nat} : (asI p).fdiv (2 ^ (min n 32)) = 0 ↔ p >>> n = 0 := by
 rw [zf, show (0 : Int) = asI 0 from rfl, d4]
theorem aun {l : List Fd} {p : AS} (h : c8 16 l = 0) (h2 : ¬ (8 : Int) < bsz p) (h3 : ¬ (asI p).fdiv (2 ^ (min 16 32)) = 0) : mw l p = 1 ∧ ut l p = ⟨0, 0⟩ ∧ pl l p = false := by
 rw [abf] at h3
 have e : mw l p = 1 := by unfold mw; rw [if_pos h, if_neg (by omega), if_neg h3]
 unfold ut pl
 rw [e]
 exact ⟨rfl, rfl, rfl⟩
theorem awy {l : List Fd} {p : AS} (h : c8 16 l = 0) (h2 : ¬ (8 : Int) < bsz p) (h3 : (asI p).fdiv (2 ^ (min 16 32)) = 0) : mw l p = 0 ∧ ut l p = gq l p ∧ pl l p = bz l p := by
 rw [abf] at h3
 have e : mw l p = 0 := by unfold mw; rw [if_pos h, if_neg (by omega), if_pos h3]
 unfold ut pl
 rw [e]
 exact ⟨rfl, rfl, rfl⟩
def bcP (n : Int) (l : List Fd) (f : Fd) : Bool := decide (f.rhs &&& ~~~f.lhs ≠ 0) && decide (clo l f.lhs ≠ bf n)
def bcS (n : Int) (l : List Fd) : Bool := decide (c8 n l = 0) && !l.any (bcP n l)
def du (n : Int) (l : List Fd) : List AS := if d7 n l 8 = 0 then (d3 (bf n)).filter fun s => !bz l s else []
theorem axb {n : Int} {l : List Fd} (h : d7 n l 8 = 0) : du n l = (d3 (bf n)).filter fun s => !bz l s := if_pos h
theorem av3 {n : Int} {l : List Fd} (h : ¬ d7 n l 8 = 0) : du n l = [] := if_neg h
theorem jn {n m : Int} {l : List Fd} (h : d7 n l m = 0) : c8 n l = 0 ∧ n ≤ m := by
 unfold d7 at h
 split at h
 · rename_i hv
   split at h
   · cases h
   · exact ⟨hv, by omega⟩
 · rename_i hv
   exact absurd h hv
theorem aoa (n : Int) (l : List Fd) : (du n l).length ≤ 4294967296 := by
 unfold du
 have := a0d (bf n)
 split
 · exact Nat.le_trans (List.length_filter_le _ _) this
 · simp
end Go.Hx
end
section
namespace Go.Hx
open Go.Proofs
set_option maxRecDepth 100000
theorem axc : goodFn Tryz.prog 58 := ⟨Tryz.f58, Tryz.func58, by kernel_rfl, by kernel_rfl⟩
theorem b00 (l : List Fd) (p : AS) : ah Tryz.prog 58 [pP (fdl l), pA p] (ap [(ut l p).pc, pB (pl l p), pI (mw l p)]) := by
 refine ag (nt := 32) af Tryz.func58 rfl rfl l9 ?_; refine sx7 ?_; refine m9 0 ?_; (iterate 2 refine qy ?_); refine a6 ?_; refine a7 ?_; refine sx7 ?_; refine qy ?_
 refine rc rfl rfl rfl rfl rfl rfl a06 (z8 16 l) (CoL.refl _) rfl rfl ?_; refine qy ?_; refine a6 ?_; refine sx7 ?_; (iterate 2 refine qy ?_); refine a6 ?_; refine a8 _ rfl (fun r0 => ?_) (fun r0 => ?_)
 ·
  have h0 := r0
  have h0 := of_decide_eq_false (ay h0)
  try simp only [ty] at h0
  refine sx7 ?_; (iterate 2 refine qy ?_); refine s9 ?_; (iterate 2 refine qy ?_); refine a6 ?_; refine am ?_; refine ⟨.inr rfl, ?_⟩
  have he := avz (p := p) h0
  exact f9 rfl rfl (⟨zp he.2.1, ccb he.2.2.symm, cci he.1.symm, trivial⟩)
 ·
  have h0 := r0
  have h0 := of_decide_eq_true (ax h0)
  try simp only [ty] at h0
  refine aa ?_; refine a7 ?_; refine sx7 ?_; refine qy ?_; refine rc rfl rfl rfl rfl rfl rfl vk (a4c p) (CoL.refl _) rfl rfl ?_; refine qy ?_; refine a6 ?_; refine a8 _ rfl (fun r1 => ?_) (fun r1 => ?_)
  ·
   have h1 := of_decide_eq_true r1
   try simp only [ty] at h1
   refine sx7 ?_; refine qy ?_; refine s9 ?_; (iterate 2 refine qy ?_); refine a6 ?_; refine am ?_; refine ⟨.inr rfl, ?_⟩
   have he := av6 h0 h1
   exact f9 rfl rfl (⟨zp he.2.1, ccb he.2.2.symm, cci he.1.symm, trivial⟩)
  ·
   have h1 := of_decide_eq_false r1
   try simp only [ty] at h1
   refine aa ?_; refine a7 ?_; refine sx7 ?_; (iterate 3 refine qy ?_); refine a6 ?_; refine a8 _ rfl (fun r2 => ?_) (fun r2 => ?_)
   ·
    have h2 := r2
    have h2 := of_decide_eq_false (ay h2)
    try simp only [ty] at h2
    refine sx7 ?_; refine qy ?_; refine s9 ?_; (iterate 2 refine qy ?_); refine a6 ?_; refine am ?_; refine ⟨.inr rfl, ?_⟩
    have he := aun h0 h1 h2
    exact f9 rfl rfl (⟨zp he.2.1, ccb he.2.2.symm, cci he.1.symm, trivial⟩)
   ·
    have h2 := r2
    have h2 := of_decide_eq_true (ax h2)
    try simp only [ty] at h2
    refine aa ?_; refine sx7 ?_; (iterate 2 refine qy ?_); refine rc rfl rfl rfl rfl rfl rfl a4w (a8r l p) (CoL.refl _) rfl rfl ?_; (iterate 3 refine qy ?_); refine m9 1 ?_; refine s9 ?_; refine qy ?_; refine a6 ?_
    refine sx7 ?_; (iterate 2 refine qy ?_); refine s9 ?_; (iterate 2 refine qy ?_); refine a6 ?_; refine am ?_; refine ⟨.inr rfl, ?_⟩
    have he := awy h0 h1 h2
    exact f9 rfl rfl (⟨axz he.2.1.symm, ccb he.2.2.symm, cci he.1.symm, trivial⟩)
theorem ara : goodFn Tryz.prog 123 := ⟨Tryz.f123, Tryz.func123, by kernel_rfl, by kernel_rfl⟩
theorem asr (s : AS) (l : List Fd) : ah Tryz.prog 123 [pA s, pP (bx (fdl l))] (ap [pB (bz l s)]) := by
 refine ag (nt := 13) af Tryz.func123 rfl rfl l9 ?_; refine sx7 ?_; refine qy ?_; refine a6 ?_; refine sx7 ?_; (iterate 2 refine qy ?_); refine rc rfl rfl rfl rfl rfl rfl a4w (a8r l s) (CoL.refl _) rfl rfl ?_
 (iterate 3 refine qy ?_); refine m9 0 ?_; refine s9 ?_; refine qy ?_; refine a6 ?_; refine sx7 ?_; (iterate 2 refine qy ?_); refine a6 ?_
 exact hx8 rfl rfl rfl (CoL.refl _)
theorem ajw : goodFn Tryz.prog 68 := ⟨Tryz.f68, Tryz.func68, by kernel_rfl, by kernel_rfl⟩
theorem aie (n : Int) (l : List Fd) : ah Tryz.prog 68 [pI n, pP (fdl l)] (ap [pP (asl (du n l)), pI (d7 n l 8)]) := by
 refine ag (nt := 18) af Tryz.func68 rfl rfl l9 ?_; refine sx7 ?_; refine m9 2 ?_; (iterate 2 refine qy ?_); refine a6 ?_; refine a7 ?_; refine sx7 ?_; (iterate 2 refine qy ?_)
 refine rc rfl rfl rfl rfl rfl rfl ak9 (avh n l) (CoL.refl _) rfl rfl ?_; refine qy ?_; refine a6 ?_; refine sx7 ?_; (iterate 2 refine qy ?_); refine a6 ?_; refine a8 _ rfl (fun r0 => ?_) (fun r0 => ?_)
 ·
  have h0 := r0
  have h0 := of_decide_eq_false (ay h0)
  try simp only [ty] at h0
  refine sx7 ?_; (iterate 3 refine qy ?_); refine a6 ?_
  exact hx8 rfl rfl rfl (⟨CoC.one (a69 (av3 h0)), CoC.refl _, trivial⟩)
 ·
  have h0 := r0
  have h0 := of_decide_eq_true (ax h0)
  try simp only [ty] at h0
  refine aa ?_; refine a7 ?_
  have hv := gw (jn h0).1
  refine d1 3 rfl rfl rfl ?_; refine gy ?_; refine qy ?_; refine rc rfl rfl rfl rfl rfl rfl abl (afu n hv.1 hv.2.1) (CoL.refl _) rfl rfl ?_
  refine bw rfl rfl rfl rfl rfl rfl ai6 (avs (bf n)) (dn.refl _) trivial rfl rfl ?_; refine qy ?_
  refine bw rfl rfl rfl rfl rfl rfl aex ((apb (d3 (bf n)) 123 1 (fun i => [bx (fdl l)].getD i .any) (bz l) ara (fun s => asr s l)).swap 900 901) (dn.refl _) ⟨u9, trivial⟩ rfl rfl ?_
  (iterate 2 refine qy ?_); refine a6 ?_
  exact hx8 rfl rfl rfl (⟨CoC.one (CoP.of_eq (by rw [axb h0])), cci h0.symm, trivial⟩)
end Go.Hx
end
section
namespace Go.Hx
def re (l : List Fd) (p z : AS) : AS := (p &&& clo l (z &&& p)) &&& ~~~z
def jl (l : List Fd) (z p : AS) : Bool := decide (re l p z ≠ 0)
def a5w (l : List Fd) (ps : List AS) : Nat → AS → AS
 | 0, z => z
 | n + 1, z => match ps.find? (jl l z) with
  | none => z
  | some p => a5w l ps n (z ||| re l p z)
def a31 (l : List Fd) (ps : List AS) (z : AS) : AS := a5w l ps 4294967297 z
def jj (l : List Fd) (ps : List AS) (f : Fd) : Bool := decide (sub f.rhs (a31 l ps f.lhs))
theorem awh (l : List Fd) (p z : AS) : da .andNot .u32 (da .and .u32 (asI p) (asI (clo l (z &&& p)))) (asI z) = asI (re l p z) := by rw [oq, a3n]; rfl
theorem asb {l : List Fd} {p z : AS} : (!decide (asI (re l p z) = 0)) = jl l z p := by
 unfold jl
 rw [show (0 : Int) = asI 0 from rfl, ai3]
 simp
theorem az2 {z m : AS} (h : m &&& ~~~z = m) (h0 : m ≠ 0) : z.toNat < (z ||| m).toNat := by
 have hs : sub z (z ||| m) := c6.2 fun i _ hi => by rw [BitVec.getLsbD_or, hi]; rfl
 have hle := a8o hs
 rcases Nat.lt_or_eq_of_le hle with h1 | h1
 · exact h1
 · exfalso
   apply h0
   have e : z = z ||| m := BitVec.eq_of_toNat_eq h1
   apply BitVec.eq_of_getLsbD_eq
   intro i hi
   have e1 := congrArg (fun s : AS => s.getLsbD i) e
   have e2 := congrArg (fun s : AS => s.getLsbD i) h
   simp only [BitVec.getLsbD_or, BitVec.getLsbD_and, BitVec.getLsbD_not] at e1 e2
   have e3 : (0 : AS).getLsbD i = false := by simp
   rw [e3]
   rw [decide_eq_true hi] at e2
   clear h h0 hs hle h1 e
   revert e1 e2
   cases z.getLsbD i <;> cases m.getLsbD i <;> simp
theorem aof {l : List Fd} {p z : AS} (h : jl l z p = true) : z.toNat < (z ||| re l p z).toNat := by
 refine az2 ?_ (of_decide_eq_true h)
 unfold re
 rw [BitVec.and_assoc, BitVec.and_self]
def a5e (l : List Fd) (ps : List AS) (z0 : AS) (x : Nat × List Nat × AS) : Prop := a5w l ps x.1 x.2.2 = a31 l ps z0 ∧ 4294967296 < x.1 + x.2.2.toNat ∧ x.2.1.length + x.1 = 4294967297
theorem anw (l : List Fd) (ps : List AS) (z0 : AS) : a5e l ps z0 (4294967297, [], z0) := by
 refine ⟨rfl, ?_, ?_⟩
 · dsimp only; omega
 · dsimp only; rw [List.length_nil]
theorem a5i {l : List Fd} {ps : List AS} {z0 : AS} {x : Nat × List Nat × AS} (h : a5e l ps z0 x) : 0 < x.1 := by
 have := h.2.1
 have := x.2.2.isLt
 omega
theorem aqa {l : List Fd} {ps : List AS} {z0 : AS} {x : Nat × List Nat × AS} (h : a5e l ps z0 x) (hi : idx (jl l x.2.2) ps < 0) : x.2.2 = a31 l ps z0 := by
 have hp := a5i h
 rw [← h.1]
 obtain ⟨n, hn⟩ : ∃ n, x.1 = n + 1 := ⟨x.1 - 1, by omega⟩
 rw [hn]
 unfold a5w
 have : ps.find? (jl l x.2.2) = none := by
  have hm : idx (jl l x.2.2) ps = -1 := by
   by_cases h : idx (jl l x.2.2) ps = -1
   · exact h
   · obtain ⟨i, h1, _⟩ := p6 h
     omega
  exact a9v (wz hm)
 rw [this]
theorem ama {l : List Fd} {ps : List AS} {z0 : AS} {x : Nat × List Nat × AS} {i : Nat} (h : a5e l ps z0 x) (hi : i < ps.length) (hv : jl l x.2.2 (ps.getD i default) = true) (hj : ∀ j, j < i → jl l x.2.2 (ps.getD j default) = false) :
 a5e l ps z0 (x.1 - 1, x.2.1 ++ [i], x.2.2 ||| re l (ps.getD i default) x.2.2) := by
 have hp := a5i h
 have hlt := aof hv
 obtain ⟨h1, h2, h3⟩ := h
 obtain ⟨n, hn⟩ : ∃ n, x.1 = n + 1 := ⟨x.1 - 1, by omega⟩
 refine ⟨?_, by dsimp only; omega, ?_⟩
 · rw [← h1, hn]
   have : ps.find? (jl l x.2.2) = some (ps.getD i default) := aac hi hj hv
   show a5w l ps n _ = _
   conv => rhs; unfold a5w
   rw [this]
 · dsimp only
   rw [List.length_append, List.length_singleton]
   omega
def li (l : List Fd) (ps : List AS) (i : Nat) : List Nat := (List.range i).filter fun j => !jj l ps (l.getD j default)
def yw (l : List Fd) (ps : List AS) : Bool := (List.range l.length).all fun j => jj l ps (l.getD j default)
theorem a0j {l : List Fd} {ps : List AS} {i : Nat} (h : jj l ps (l.getD i default) = false) : li l ps (i + 1) = li l ps i ++ [i] := by
 unfold li
 rw [List.range_succ, List.filter_append]
 simp only [List.filter_cons, h, Bool.not_false, Bool.not_true, if_true, List.filter_nil, List.append_nil, Bool.false_eq_true, if_false]
theorem a14 {l : List Fd} {ps : List AS} {i : Nat} (h : jj l ps (l.getD i default) = true) : li l ps (i + 1) = li l ps i := by
 unfold li
 rw [List.range_succ, List.filter_append]
 simp only [List.filter_cons, h, Bool.not_false, Bool.not_true, if_true, List.filter_nil, List.append_nil, Bool.false_eq_true, if_false]
theorem ah1 (l : List Fd) (ps : List AS) (i : Nat) : (li l ps i).length ≤ i := Nat.le_trans (List.length_filter_le _ _) (by rw [List.length_range]; exact Nat.le_refl _)
theorem ao6 {l : List Fd} {ps : List AS} : decide (((li l ps l.length).length : Int) = 0) = yw l ps := by
 unfold li yw
 rw [Bool.eq_iff_iff, decide_eq_true_iff, List.all_eq_true]
 constructor
 · intro h x hx
   have h0 : ((List.range l.length).filter fun j => !jj l ps (l.getD j default)) = [] := List.eq_nil_of_length_eq_zero (by omega)
   rw [List.filter_eq_nil_iff] at h0
   have := h0 x hx
   simpa using this
 · intro h
   rw [List.filter_eq_nil_iff.2 fun x hx => (by rw [h x hx]; decide)]
   rfl
theorem aut {l : List Fd} {ps : List AS} {f : Fd} : decide (da .andNot .u32 (asI f.rhs) (asI (a31 l ps f.lhs)) = 0) = jj l ps f := decide_eq_decide.2 mh
theorem atk (l : List Fd) : HV.clo 229 2 (fun i => [HV.p (bx (fdl l)), .ptr 1 0].getD i (.p .any)) = HV.clo 229 2 (fun i => ([HV.p (bx (fdl l)), .ptr 1000 0].getD i (.p .any)).ren (swp 1000 1)) :=
 congrArg (HV.clo 229 2) (funext fun i => match i with | 0 => rfl | 1 => rfl | n + 2 => rfl)
end Go.Hx
end
