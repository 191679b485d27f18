/- A part of the proof: lemmas for the theorem of this claim, merged by a program of ours out of Hx25. -/
import Derived.Test.YtididbpiikfaiaaDoorE15
set_option linter.all false
section
namespace Go.Hx
open Go.RowKit
section
variable {w0 : World} {nt : Nat} {c : Ctx} {s : S} {a : Act} {w : World}
theorem nest_empty {base : Nat} {o : Objs} {id : Nat} {e et : TypeId} {es : Nat} {m : Nat → Nat} {g : Nat → Nat → Nat → PV} (hes : 0 < es) (hb : c.blk id = noB) (hv : ∃ ad, c.own id = .slice ad 0 0) : ObjOk base c o w id (.nest e et es 0 m g none) := by
  obtain ⟨ad, hv⟩ := hv
  refine ⟨hes, Nat.zero_le _, fun i hi => absurd hi (Nat.not_lt_zero i), fun b => ?_, fun i b hi => absurd hi (Nat.not_lt_zero i), fun i hi => absurd hi (Nat.not_lt_zero i), .inl ⟨rfl, ad, hv⟩⟩
  rw [hb, hv]
  constructor
  · exact fun h => h.elim
  · rintro (h | ⟨i, hi, _⟩)
    · cases ad <;> simp [capBlk] at h
    · exact absurd hi (Nat.not_lt_zero i)
theorem clip_empty {imm : Imm} {s' : Nat} {f : Nat → Nat → PV} {u : Value} (h : RepP imm (.sl 0 s' true f) u) : ∃ ad, u = .slice ad 0 0 := by
  obtain ⟨ad, cap, rfl, _, _, hc, _⟩ := h
  rw [hc rfl]
  exact ⟨ad, rfl⟩
def takeM (m : Nat → Nat) (n k : Nat) : Nat → Nat := fun i => bif Nat.beq i n then k else m i
def takeG (g : Nat → Nat → Nat → PV) (n : Nat) (f : Nat → Nat → PV) : Nat → Nat → Nat → PV := fun i => bif Nat.beq i n then f else g i
theorem takeM_n (m : Nat → Nat) (n k : Nat) : takeM m n k n = k := by simp [takeM]
theorem takeM_lt {m : Nat → Nat} {n k i : Nat} (h : i ≠ n) : takeM m n k i = m i := by
  have : Nat.beq i n = false := by rw [Bool.eq_false_iff]; exact fun hb => h (Nat.eq_of_beq_eq_true hb)
  simp [takeM, this]
theorem takeG_n (g : Nat → Nat → Nat → PV) (n : Nat) (f : Nat → Nat → PV) : takeG g n f n = f := by simp [takeG]
theorem takeG_lt {g : Nat → Nat → Nat → PV} {n i : Nat} {f : Nat → Nat → PV} (h : i ≠ n) : takeG g n f i = g i := by
  have : Nat.beq i n = false := by rw [Bool.eq_false_iff]; exact fun hb => h (Nat.eq_of_beq_eq_true hb)
  simp [takeG, this]
theorem capBlk_blkOf {v : Value} {b : Nat} (h : capBlk v = some b) : blkOf v = some b := by
  unfold capBlk at h
  split at h
  · split at h
    · cases h
    · exact h
  · cases h
theorem RelC.absorb (h : RelC w0 nt c s a w) {id id' k n : Nat} {e et : TypeId} {es : Nat} {m : Nat → Nat} {g : Nat → Nat → Nat → PV} {f : Nat → Nat → PV} (ho : s.o id = some (.nest e et es n m g (some (id', k)))) (ho' : s.o id' = some (.arr true es et k f)) :
    ∃ c', c'.old = c.old ∧ RelC w0 nt c' ((s.setO id (some (.nest e et es (n + 1) (takeM m n k) (takeG g n f) none))).setO id' none) a w := by
  have hne : id' ≠ id := by rintro rfl; rw [ho] at ho'; cases ho'
  have hnk : NestOk 0 c s.o w id e et es n m g (some (id', k)) := h.objs id _ ho
  obtain ⟨q0, q1, q5⟩ := h.objs id' _ ho'
  have hcb : ∀ b, capBlk (c.own id') = some b → c.blk id' b := fun b hb => by
    rcases q5 with ⟨q6, _⟩ | ⟨q7, _, q8⟩
    · rw [q6]; exact capBlk_blkOf hb
    · obtain ⟨ad, cap, r1, _, _, r4, _⟩ := q8
      rcases q7 with q7 | q7
      · cases q7
      · subst q7
        rw [r1, r4 rfl] at hb
        cases ad <;> simp [capBlk] at hb
  have hrow : (k = 0 ∧ ∃ a, c.own id' = .slice a 0 0) ∨ ∃ ys, w.ownsRow 0 et es (c.own id') k ys ∧ ∀ r j, r < k → j < es → ∃ x, ys[r * es + j]? = some x ∧ RepP c.imm (f r j) x := by
    rcases q5 with ⟨q6, xs, q7, q8⟩ | ⟨q6, q7, q8⟩
    · exact .inr ⟨xs, q7, q8⟩
    · rcases q6 with q6 | q6
      · cases q6
      · subst q6
        exact .inl ⟨rfl, clip_empty q8⟩
  let o' : Objs := ((s.setO id (some (.nest e et es (n + 1) (takeM m n k) (takeG g n f) none))).setO id' none).o
  have oid : o' id = some (.nest e et es (n + 1) (takeM m n k) (takeG g n f) none) := by
    show (if id = id' then _ else if id = id then _ else _) = _
    rw [if_neg (Ne.symm hne), if_pos rfl]
  have oid' : o' id' = none := by
    show (if id' = id' then _ else _) = _
    rw [if_pos rfl]
  have oelse : ∀ q, q ≠ id → q ≠ id' → o' q = s.o q := fun q h1 h2 => by
    show (if q = id' then _ else if q = id then _ else _) = _
    rw [if_neg h2, if_neg h1]
  let c' : Ctx := { old := c.old, imm := c.imm, tab := c.tab, own := c.own, blk := fun q => if q = id then (fun b => c.blk id b ∨ capBlk (c.own id') = some b) else c.blk q, rows := fun q => if q = id then (fun i => if i = n then c.own id' else c.rows id i) else c.rows q }
  have rlt : ∀ i, i < n → c'.rows id i = c.rows id i := fun i hi => by
    show (if id = id then (fun i => if i = n then c.own id' else c.rows id i) else c.rows id) i = _
    rw [if_pos rfl]
    show (if i = n then _ else _) = _
    rw [if_neg (by omega)]
  have rn : c'.rows id n = c.own id' := by
    show (if id = id then (fun i => if i = n then c.own id' else c.rows id i) else c.rows id) n = _
    rw [if_pos rfl]
    show (if n = n then _ else _) = _
    rw [if_pos rfl]
  have hevo : ∀ q, Evo c s.o c' o' q := fun q => by
    by_cases h1 : q = id
    · subst h1
      refine .inr (.inr ⟨_, _, 1, e, n + 1, n + 1, ho, rfl, oid, rfl, Nat.le_refl _, fun _ => rfl, fun e2 et2 es2 n2 m2 g2 pd2 hb2 => ?_⟩)
      cases hb2
      refine ⟨_, _, _, _, _, _, rfl, Nat.le_succ _, fun i hi => ⟨by rw [takeM_lt (by omega)]; exact Nat.le_refl _, fun _ => rlt i hi⟩⟩
    · by_cases h2 : q = id'
      · subst h2; exact .inl oid'
      · exact Evo.of_same (oelse q h1 h2) rfl (by show (if q = id then _ else _) = _; rw [if_neg h1])
  have bid : ∀ q, q ≠ id → c'.blk q = c.blk q := fun q hq => by show (if q = id then _ else _) = _; rw [if_neg hq]
  have bself : ∀ b, c'.blk id b ↔ (c.blk id b ∨ capBlk (c.own id') = some b) := fun b => by
    show (if id = id then _ else c.blk id : Nat → Prop) b ↔ _
    rw [if_pos rfl]
  have hold : ∀ q ob, o' q = some ob → q ≠ id → q ≠ id' ∧ s.o q = some ob := fun q ob hq h1 => by
    by_cases h2 : q = id'
    · subst h2; rw [oid'] at hq; cases hq
    · exact ⟨h2, by rw [← oelse q h1 h2]; exact hq⟩
  have whose : ∀ b, c'.blk id b → c.blk id b ∨ c.blk id' b := fun b hb => ((bself b).1 hb).imp (fun z => z) (hcb b)
  refine ⟨c', rfl, ⟨h.defers, h.size, h.below, fun d x hx => (h.tmps d x hx).evo (Imm.le.refl c.imm) fun q _ => hevo q, fun q ob hq => ?_, fun q q' ob ob' b hq hq' hb hb' => ?_, h.imm, fun q ob b hq hb => ?_, h.was, h.frm, fun q ob b hq hb => ?_, fun q hq => (h.fixed q hq).trans (hevo q)⟩⟩
  · by_cases h1 : q = id
    · subst h1
      have hq : o' q = some ob := hq
      rw [oid] at hq
      cases hq
      have hlen := hnk.len
      simp only [pdLen] at hlen
      refine ⟨hnk.pos, hlen, fun i hi => ?_, fun b => ?_, fun i b hi hb => ?_, fun i hi => ?_, .inr ?_⟩
      · by_cases hin : i = n
        · subst hin; rw [takeM_n]; exact q1
        · rw [takeM_lt hin]; exact hnk.lens i (by omega)
      · rw [bself, hnk.blks]
        constructor
        · rintro ((h2 | ⟨i, hi, h2⟩) | h2)
          · exact .inl h2
          · exact .inr ⟨i, by omega, by rw [rlt i hi]; exact h2⟩
          · exact .inr ⟨n, by omega, by rw [rn]; exact h2⟩
        · rintro (h2 | ⟨i, hi, h2⟩)
          · exact .inl (.inl h2)
          · by_cases hin : i = n
            · subst hin; rw [rn] at h2; exact .inr h2
            · rw [rlt i (by omega)] at h2; exact .inl (.inr ⟨i, by omega, h2⟩)
      · have far : ∀ b, capBlk (c.own id') = some b → ¬ c.blk q b := fun b h2 h3 => hne (h.inj id' q _ _ b ho' ho (hcb b h2) h3)
        by_cases hin : i = n
        · subst hin
          rw [rn] at hb
          refine ⟨fun h2 => far b hb ((hnk.blks b).2 (.inl h2)), fun i' hi' h2 => ?_⟩
          by_cases hin' : i' = i
          · exact hin'
          · rw [rlt i' (by omega)] at h2
            exact (far b hb ((hnk.blks b).2 (.inr ⟨i', by omega, h2⟩))).elim
        · rw [rlt i (by omega)] at hb
          obtain ⟨h2, h3⟩ := hnk.apart i b (by omega) hb
          refine ⟨h2, fun i' hi' h4 => ?_⟩
          by_cases hin' : i' = n
          · subst hin'
            rw [rn] at h4
            exact (far b h4 ((hnk.blks b).2 (.inr ⟨i, by omega, hb⟩))).elim
          · rw [rlt i' (by omega)] at h4
            exact h3 i' (by omega) h4
      · by_cases hin : i = n
        · subst hin
          rw [rn, takeM_n, takeG_n]
          exact hrow
        · rw [rlt i (by omega), takeM_lt hin, takeG_lt hin]
          exact hnk.row i (by omega)
      · rcases hnk.top with ⟨h2, _⟩ | ⟨xs, t1, t2, t3⟩
        · simp [pdLen] at h2
        · refine ⟨xs, t1, fun i hi => ?_, fun p hp => by cases hp⟩
          by_cases hin : i = n
          · subst hin
            obtain ⟨x, hx, hxr⟩ := t3 _ rfl
            obtain ⟨_, _, hr3⟩ := hxr
            rw [rn, hx, (hr3 _ _ _ _ ho' rfl).2 rfl]
          · rw [rlt i (by omega)]
            exact t2 i (by omega)
    · obtain ⟨h2, h3⟩ := hold q ob hq h1
      exact (h.objs q ob h3).keep (Imm.le.refl c.imm) rfl (bid q h1) (fun j _ => hevo j) (fun b _ => rfl) (by show (if q = id then _ else _) = _; rw [if_neg h1])
  · by_cases h1 : q = id
    · by_cases h2 : q' = id
      · rw [h1, h2]
      · obtain ⟨h3, h4⟩ := hold q' ob' hq' h2
        rw [bid q' h2] at hb'
        subst h1
        rcases whose b hb with h5 | h5
        · exact h.inj q q' _ _ b ho h4 h5 hb'
        · exact (h3 (h.inj q' id' _ _ b h4 ho' hb' h5)).elim
    · obtain ⟨h3, h4⟩ := hold q ob hq h1
      rw [bid q h1] at hb
      by_cases h2 : q' = id
      · subst h2
        rcases whose b hb' with h5 | h5
        · exact h.inj q q' _ _ b h4 ho hb h5
        · exact (h3 (h.inj q id' _ _ b h4 ho' hb h5)).elim
      · obtain ⟨h5, h6⟩ := hold q' ob' hq' h2
        rw [bid q' h2] at hb'
        exact h.inj q q' _ _ b h4 h6 hb hb'
  · by_cases h1 : q = id
    · subst h1
      rcases whose b hb with h5 | h5
      · exact h.sep q _ b ho h5
      · exact h.sep id' _ b ho' h5
    · rw [bid q h1] at hb
      exact h.sep q ob b (hold q ob hq h1).2 hb
  · by_cases h1 : q = id
    · subst h1
      rcases whose b hb with h5 | h5
      · exact h.fsep q _ b ho h5
      · exact h.fsep id' _ b ho' h5
    · rw [bid q h1] at hb
      exact h.fsep q ob b (hold q ob hq h1).2 hb
def thinF (es : Nat) (m : Nat → Nat) (g : Nat → Nat → Nat → PV) : Nat → Nat → PV := fun i _ => .sl (m i) es false (g i)
open Classical in
noncomputable def thinImm (c : Ctx) (w : World) (id n : Nat) : Imm := fun b => if ∃ i, i < n ∧ capBlk (c.rows id i) = some b then w.heap[b]? else c.imm b
theorem RelC.thin (h : RelC w0 nt c s a w) {id n : Nat} {e et : TypeId} {es : Nat} {m : Nat → Nat} {g : Nat → Nat → Nat → PV} (ho : s.o id = some (.nest e et es n m g none)) :
    ∃ c', c'.old = c.old ∧ RelC w0 nt c' (s.setO id (some (.arr true 1 e n (thinF es m g)))) a w := by
  have hnk : NestOk 0 c s.o w id e et es n m g none := h.objs id _ ho
  have hin : ∀ b, (∃ i, i < n ∧ capBlk (c.rows id i) = some b) → c.blk id b := fun b hb => (hnk.blks b).2 (.inr hb)
  have hle : Imm.le c.imm (thinImm c w id n) := fun b ob hb => by
    unfold thinImm
    by_cases hk : ∃ i, i < n ∧ capBlk (c.rows id i) = some b
    · rw [h.sep id _ b ho (hin b hk)] at hb; cases hb
    · rw [if_neg hk]; exact hb
  let ob' : HObj := .arr true 1 e n (thinF es m g)
  let bk : Nat → Prop := fun b => capBlk (c.own id) = some b
  let c' : Ctx := { old := c.old, imm := thinImm c w id n, tab := c.tab.mono hle, own := c.own, blk := fun q => if q = id then bk else c.blk q, rows := c.rows }
  have oid : (s.setO id (some ob')).o id = some ob' := by show (if id = id then _ else _) = _; rw [if_pos rfl]
  have oelse : ∀ q, q ≠ id → (s.setO id (some ob')).o q = s.o q := fun q hq => by show (if q = id then _ else _) = _; rw [if_neg hq]
  have hevo : ∀ q, Evo c s.o c' (s.setO id (some ob')).o q := fun q => by
    by_cases h1 : q = id
    · subst h1
      exact .inr (.inr ⟨_, .arr true 1 e n (thinF es m g), 1, e, n, n, ho, rfl, oid, rfl, Nat.le_refl _, fun _ => rfl, fun _ _ _ _ _ _ _ hb => by cases hb⟩)
    · exact Evo.of_same (oelse q h1) rfl rfl
  have bid : ∀ q, q ≠ id → c'.blk q = c.blk q := fun q hq => by show (if q = id then _ else _) = _; rw [if_neg hq]
  have bself : c'.blk id = bk := by show (if id = id then _ else _) = _; rw [if_pos rfl]
  have whose : ∀ b, c'.blk id b → c.blk id b := fun b hb => by
    rw [bself] at hb
    exact (hnk.blks b).2 (.inl hb)
  have hrowP : ∀ i, i < n → RepP (thinImm c w id n) (.sl (m i) es false (g i)) (c.rows id i) := fun i hi => by
    obtain ⟨ad, cap, q1, q2, q3⟩ := nest_rowV (h.objs id _ ho) hi
    refine ⟨ad, cap, q1, q2, q3, (fun hh => by cases hh), fun hm => ?_⟩
    obtain ⟨b, cap', ys, r1, r2, _, r3⟩ := nest_row (h.objs id _ ho) hi hm
    rw [q1] at r1
    simp only [Value.slice.injEq, true_and] at r1
    obtain ⟨rfl, rfl⟩ := r1
    refine ⟨b, 0, rfl, fun r j hr hj => ?_⟩
    obtain ⟨x, _, hx, hxr⟩ := r3 r j hr hj
    refine ⟨x, ?_, RepP.mono hle hxr⟩
    rw [Nat.zero_add]
    unfold cellIn thinImm
    rw [if_pos ⟨i, hi, r2⟩]
    unfold World.cell? at hx
    dsimp only at hx
    split at hx
    · rename_i cs e0 fr hb'
      rw [hb']
      simpa using hx
    · cases hx
  refine ⟨c', rfl, ⟨h.defers.keep (fun _ _ => rfl) (fun D hD hd => ?_), h.size, h.below, fun d x hx => (h.tmps d x hx).evo hle fun q _ => hevo q, fun q ob hq => ?_, fun q q' ob ob2 b hq hq' hb hb' => ?_, fun b ob hb => ?_, fun q ob b hq hb => ?_, fun b hb => ?_, h.frm, fun q ob b hq hb => ?_, fun q hq => (h.fixed q hq).trans (hevo q)⟩⟩
  · show thinImm c w id n D = none
    unfold thinImm
    rw [if_neg fun hk => by
      obtain ⟨x1, hc, hdt⟩ := (h.objs id _ ho).data (hin D hk)
      rw [hd] at hc
      cases hc
      cases hdt]
    exact hD
  · by_cases h1 : q = id
    · subst h1
      rw [oid] at hq
      cases hq
      refine ⟨Nat.one_pos, hnk.len, ?_⟩
      have hplain : n = 0 ∧ (∃ ad, c.own q = .slice ad 0 0) → (c'.blk q = blkS (c.own q) ∧ ∃ xs, w.ownsRow 0 e 1 (c.own q) n xs ∧ ∀ i j, i < n → j < 1 → ∃ x, xs[i * 1 + j]? = some x ∧ RepP c'.imm (thinF es m g i j) x) ∨
          ((true = false ∨ n = 0) ∧ c'.blk q = noB ∧ RepP c'.imm (.sl n 1 true (thinF es m g)) (c.own q)) := by
        rintro ⟨rfl, ad, hv⟩
        refine .inr ⟨.inr rfl, ?_, ?_⟩
        · rw [bself]
          funext b
          show (capBlk (c.own q) = some b) = False
          rw [hv]
          cases ad <;> simp [capBlk]
        · rw [hv]
          exact ⟨ad, 0, rfl, Nat.le_refl _, Nat.zero_le _, fun _ => rfl, fun hh => absurd hh (Nat.lt_irrefl 0)⟩
      rcases hnk.top with ⟨h2, h3⟩ | ⟨xs, t1, t2, _⟩
      · exact hplain ⟨h2, h3⟩
      · have t1 : w.ownsRow 0 e 1 (c.own q) n xs := t1
        rcases row_form t1 with r0 | ⟨b, cap, rv, rb⟩
        · exact hplain r0
        · refine .inl ⟨?_, xs, t1, fun i j hi hj => ?_⟩
          · rw [bself]
            funext b'
            show (capBlk (c.own q) = some b') = (blkOf (c.own q) = some b')
            rw [rb, rv]
            rfl
          · obtain rfl : j = 0 := by omega
            exact ⟨_, by simpa using t2 i hi, hrowP i hi⟩
    · rw [oelse q h1] at hq
      exact (h.objs q ob hq).keep hle rfl (bid q h1) (fun j _ => hevo j) (fun b _ => rfl) rfl
  · by_cases h1 : q = id
    · by_cases h2 : q' = id
      · rw [h1, h2]
      · rw [oelse q' h2] at hq'
        rw [bid q' h2] at hb'
        subst h1
        exact h.inj q q' _ _ b ho hq' (whose b hb) hb'
    · rw [oelse q h1] at hq
      rw [bid q h1] at hb
      by_cases h2 : q' = id
      · subst h2
        exact h.inj q q' _ _ b hq ho hb (whose b hb')
      · rw [oelse q' h2] at hq'
        rw [bid q' h2] at hb'
        exact h.inj q q' _ _ b hq hq' hb hb'
  · have hb : thinImm c w id n b = some ob := hb
    unfold thinImm at hb
    split at hb
    · exact hb
    · exact h.imm b ob hb
  · show thinImm c w id n b = none
    unfold thinImm
    by_cases h1 : q = id
    · subst h1
      rw [bself] at hb
      rw [if_neg fun ⟨i, hi, hk⟩ => (hnk.apart i b hi hk).1 hb]
      exact h.sep q _ b ho ((hnk.blks b).2 (.inl hb))
    · rw [oelse q h1] at hq
      rw [bid q h1] at hb
      rw [if_neg fun hk => h1 (h.inj q id _ _ b hq ho hb (hin b hk))]
      exact h.sep q ob b hq hb
  · show thinImm c w id n b = c.old.1 b
    unfold thinImm
    rw [if_neg fun hk => hb (h.fsep id _ b ho (hin b hk))]
    exact h.was b hb
  · by_cases h1 : q = id
    · subst h1
      exact h.fsep q _ b ho (whose b hb)
    · rw [oelse q h1] at hq
      rw [bid q h1] at hb
      exact h.fsep q ob b hq hb
end
section
variable {ro : Option Nat} {P : Program} {nt : Nat} {st : HSt} {Q : Exit → HSt → Prop}
theorem hw_adoptN {c : Code} (d id : Nat) {s' : Nat} {f' : Nat → Nat → PV} (e et : TypeId) (es : Nat) (m : Nat → Nat) (g : Nat → Nat → Nat → PV) (hs : 0 < es) (hd : look st.t d = some (oneP (.sl 0 s' true f'))) (hn : newB id st = true)
    (h : HW (ro := ro) P nt c ⟨(d, some (.v (.one (.ref id 0)))) :: st.t, (id, some (.nest e et es 0 m g none)) :: st.o⟩ Q) : HW (ro := ro) P nt c st Q := by
  obtain ⟨hnm, hno⟩ := newB_spec hn
  refine hw_put ⟨st.t, (id, some (.nest e et es 0 m g none)) :: st.o⟩ d (.v (.one (.ref id 0))) (fun w0 m0 a w hr => ?_) h
  obtain ⟨cc, hold, hrr⟩ := hr
  have hx : RepP cc.imm (.sl 0 s' true f') (a.tmps.getD d undef) := hrr.tmps d _ hd
  have hfresh := hrr.fresh id hnm hno (.nest e et es 0 m g none) w (a.tmps.getD d undef) noB (Grw.refl w none) (fun b hb => hb.elim) (nest_empty hs (by simp) (by simpa using clip_empty hx))
  refine ⟨_, ?_, by rw [den_put]; exact hfresh, ?_⟩
  · exact hold
  · rw [den_put]
    refine ⟨RepP.oneCell hx, fun l => by simp [S.setO], fun ob1 s1 e1 n1 ho hd1 => ?_⟩
    simp only [S.setO, if_true, Option.some.injEq] at ho
    subst ho
    simp only [HObj.dim, Option.some.injEq, Prod.mk.injEq] at hd1
    obtain ⟨rfl, rfl, rfl⟩ := hd1
    exact ⟨Nat.le_refl _, fun _ => by simp⟩
theorem hw_absorb {c : Code} (id id' : Nat) {k n : Nat} {e et : TypeId} {es : Nat} {m : Nat → Nat} {g : Nat → Nat → Nat → PV} {f : Nat → Nat → PV} (ho : look st.o id = some (.nest e et es n m g (some (id', k)))) (ho' : look st.o id' = some (.arr true es et k f))
    (h : HW (ro := ro) P nt c ⟨st.t, (id', none) :: (id, some (.nest e et es (n + 1) (takeM m n k) (takeG g n f) none)) :: st.o⟩ Q) : HW (ro := ro) P nt c st Q := fun w0 m0 a w hr => by
  obtain ⟨cc, hold, hrr⟩ := hr
  obtain ⟨c', h1, h2⟩ := hrr.absorb ho ho'
  refine h w0 m0 a w ⟨c', h1.trans hold, ?_⟩
  have e1 := den_drop ⟨st.t, (id, some (.nest e et es (n + 1) (takeM m n k) (takeG g n f) none)) :: st.o⟩ id'
  rw [den_put] at e1
  rw [e1]
  exact h2
theorem hw_thin {c : Code} (id : Nat) {n : Nat} {e et : TypeId} {es : Nat} {m : Nat → Nat} {g : Nat → Nat → Nat → PV} (ho : look st.o id = some (.nest e et es n m g none))
    (h : HW (ro := ro) P nt c ⟨st.t, (id, some (.arr true 1 e n (thinF es m g))) :: st.o⟩ Q) : HW (ro := ro) P nt c st Q := fun w0 m0 a w hr => by
  obtain ⟨cc, hold, hrr⟩ := hr
  obtain ⟨c', h1, h2⟩ := hrr.thin ho
  refine h w0 m0 a w ⟨c', h1.trans hold, ?_⟩
  rw [den_put]
  exact h2
end
theorem rel_adopt_cellN {nt : Nat} {st : HSt} {w0 : World} {m0 : Old} {a : Act} {w : World} (bx off id : Nat) {s' : Nat} {f' : Nat → Nat → PV} {l : List HV} (e et : TypeId) (es : Nat) (m : Nat → Nat) (g : Nat → Nat → Nat → PV) (hs : 0 < es) (hb : look st.o bx = some (.box l)) (hl : l[off]? = some (.p (.sl 0 s' true f'))) (hn : newB id st = true) (hne : Nat.beq bx id = false)
    (hr : Rel w0 m0 nt st.den a w) : Rel w0 m0 nt (HSt.den ⟨st.t, (bx, some (.box (setAt l off [.ref id 0]))) :: (id, some (.nest e et es 0 m g none)) :: st.o⟩) a w := by
  obtain ⟨hnm, hno⟩ := newB_spec hn
  obtain ⟨cc, hold, hrr⟩ := hr
  have hbi : bx ≠ id := by rintro rfl; simp at hne
  obtain ⟨b0, C0, e0, p1, p2, p3, p4, p5⟩ := hrr.objs bx _ hb
  obtain ⟨u, hu, hur⟩ := p5.get off _ hl
  have hx : RepP cc.imm (.sl 0 s' true f') u := hur
  have hfresh := hrr.fresh id hnm hno (.nest e et es 0 m g none) w u noB (Grw.refl w none) (fun b hb => hb.elim) (nest_empty hs (by simp) (by simpa using clip_empty hx))
  rw [← den_put] at hfresh
  have hb' : (HSt.den ⟨st.t, (id, some (.nest e et es 0 m g none)) :: st.o⟩).o bx = some (.box l) := by
    simp only [HSt.den, look_cons, hbi, if_false]; exact hb
  have hevo : ∀ (c1 : Ctx), c1.own = (fun k => if k = id then u else cc.own k) → Evo { old := cc.old, imm := cc.imm, tab := cc.tab, own := fun k => if k = id then u else cc.own k, blk := fun k => if k = id then noB else cc.blk k, rows := cc.rows } (HSt.den ⟨st.t, (id, some (.nest e et es 0 m g none)) :: st.o⟩).o c1 ((HSt.den ⟨st.t, (id, some (.nest e et es 0 m g none)) :: st.o⟩).setO bx (some (.box (setAt l off [.ref id 0])))).o bx := fun c1 h1 =>
    .inr (.inl ⟨l, setAt l off [.ref id 0], hb', by simp [S.setO], by rw [h1]⟩)
  have hown : (fun k => if k = bx then (fun k => if k = id then u else cc.own k) bx else (fun k => if k = id then u else cc.own k) k) = fun k => if k = id then u else cc.own k := by
    funext k
    by_cases hk : k = bx
    · subst hk; simp
    · simp [hk]
  have hw := hfresh.write bx (.box l) hb' (.box (setAt l off [.ref id 0])) w ((fun k => if k = id then u else cc.own k) bx) ((fun k => if k = id then noB else cc.blk k) bx) none (Grw.refl w _) (fun _ e => by cases e) (hevo _ (by exact hown)) (fun b hb => .inl hb) (by
    refine ⟨b0, C0, e0, by simpa [hbi] using p1, by simpa [hbi] using p2, p3, p4, ?_⟩
    have hoff : off < l.length := (List.getElem?_eq_some_iff.1 hl).1
    have hcl := p5.length
    refine RepHL.of_get ?_ fun k x u' hx' hu' => ?_
    · simp only [setAt, List.length_append, List.length_take, List.length_drop, List.length_singleton]; omega
    · have hx2 := hx'
      unfold setAt at hx2
      rw [getElem?_splice l [HV.ref id 0] off k (by simp; omega)] at hx2
      by_cases hk : k = off
      · subst hk
        simp at hx2
        subst hx2
        rw [hu] at hu'
        simp only [Option.some.injEq] at hu'
        subst hu'
        refine ⟨RepP.oneCell hx, fun l2 => by simp [S.setO, HSt.den, look_cons, Ne.symm hbi], fun ob1 s1 e1 n1 ho hd1 => ?_⟩
        simp only [S.setO, HSt.den, look_cons, Ne.symm hbi, if_false, if_true, Option.some.injEq] at ho
        subst ho
        simp only [HObj.dim, Option.some.injEq, Prod.mk.injEq] at hd1
        obtain ⟨rfl, rfl, rfl⟩ := hd1
        exact ⟨Nat.le_refl _, fun _ => by simp [Ne.symm hbi]⟩
      · rw [if_neg (by simp; omega)] at hx2
        obtain ⟨u2, hu2, hr2⟩ := p5.get k x hx2
        rw [hu'] at hu2
        simp only [Option.some.injEq] at hu2
        subst hu2
        refine RepH.evo (c := cc) (o := st.den.o) (Imm.le.refl cc.imm) (fun j hj => ?_) hr2
        have hji : j ≠ id := by
          rintro rfl
          exact hnm.2.1 bx _ hb ⟨x, List.mem_of_getElem? hx2, hj⟩
        by_cases hjb : j = bx
        · subst hjb; exact .inr (.inl ⟨l, setAt l off [.ref id 0], hb, by simp [S.setO], by simp [hji]⟩)
        · exact Evo.of_same (by simp [S.setO, hjb, HSt.den, look_cons, hji]) (by simp [hjb, hji]))
  have e : HSt.den ⟨st.t, (bx, some (.box (setAt l off [.ref id 0]))) :: (id, some (.nest e et es 0 m g none)) :: st.o⟩ = (HSt.den ⟨st.t, (id, some (.nest e et es 0 m g none)) :: st.o⟩).setO bx (some (.box (setAt l off [.ref id 0]))) := by
    unfold HSt.den S.setO
    simp only [S.mk.injEq, true_and]
    funext k
    simp only [look_cons]
  rw [e]
  exact ⟨_, (by exact hold), hw⟩
theorem hw_adopt_cellN {ro : Option Nat} {P : Program} {nt : Nat} {st : HSt} {Q : Exit → HSt → Prop} {c : Code} (bx off id : Nat) {s' : Nat} {f' : Nat → Nat → PV} {l : List HV} (e et : TypeId) (es : Nat) (m : Nat → Nat) (g : Nat → Nat → Nat → PV) (hs : 0 < es) (hb : look st.o bx = some (.box l)) (hl : l[off]? = some (.p (.sl 0 s' true f'))) (hn : newB id st = true) (hne : Nat.beq bx id = false)
    (h : HW (ro := ro) P nt c ⟨st.t, (bx, some (.box (setAt l off [.ref id 0]))) :: (id, some (.nest e et es 0 m g none)) :: st.o⟩ Q) : HW (ro := ro) P nt c st Q := fun w0 m0 a w hr => h w0 m0 a w (rel_adopt_cellN bx off id e et es m g hs hb hl hn hne hr)
end Go.Hx
end
