/- A part of the proof: lemmas for the theorem of this claim, merged by a program of ours out of Hx19, Hx24. -/
import Derived.Deep.AppendLies
import Derived.Laws.CopyRow
import Derived.Shelf.Spec.SlicesInsertGrow
import Derived.Test.YtididbpiikfaiaaDoorC15
set_option linter.all false
section
namespace Go.Hx
open Go.Proofs Go.Lib Go.RowKit
theorem ha_old (w : World) (o : Obj) {r : Nat} (h : r < w.heap.size) : (w.alloc o).heap[r]? = w.heap[r]? := by
  show (w.heap.push o)[r]? = _
  rw [Array.getElem?_push_lt h, Array.getElem?_eq_getElem h]
theorem run_copy_rows {P : Program} (w : World) (dT sT ty elem : TypeId) (g o dLen dCap : Nat) (a : Addr) (sLen sCap size : Nat) (cur : Array Value) (t : TypeId) (cs : List Value)
    (hu : P.underlying dT = some (.slice elem)) (hs : (P.info? elem).map (·.size) = some size)
    (hg : w.heap[g]? = some (.cells cur t (0, 0))) (hn : cs.length = Nat.min sLen dLen * size)
    (hsrc : ∀ j v, cs[j]? = some v → w.cell? (a.add j) = some v) (hfit : o + cs.length ≤ cur.size) (h1 : ∀ v ∈ cs, v.oneCell' = true) :
    (Builtin.copy_ #[dT, sT] ty #[.slice (some ⟨g, o, none⟩) dLen dCap, .slice (some a) sLen sCap]).run P w =
      .ok (goInt (Nat.min sLen dLen)) (w.setRow g (cur.toList.take o ++ cs ++ cur.toList.drop (o + cs.length)).toArray) := by
  have hl := run_loadCells_list (P := P) w a cs hsrc
  have hst := run_storeCells_at P g o t cs 0 cur w hg (by simpa using hfit) h1
  cases hq : P.info? elem with
  | none => simp [hq] at hs
  | some i =>
    have hi : i.size = size := by simpa [hq] using hs
    simp [Builtin.copy_, run_underlying hu, Builtin.lenOf, Builtin.firstCells, sizeOf, typeInfo, hq, hi, ← hn, hl, hst]
def insL (k : Nat) (xs vs : List Value) : List Value := xs.take k ++ vs ++ xs.drop k
theorem insL_len {k : Nat} {xs vs : List Value} (h : k ≤ xs.length) : (insL k xs vs).length = xs.length + vs.length := by
  simp [insL]; omega
structure InsEnd (w w' : World) (T s : Nat) (own v : Value) (n : Nat) (xs : List Value) : Prop where
  row : w'.ownsRow 0 T s v (n + 1) xs
  bl : Below 0 w w'
  out : ∀ g, g < w.heap.size → blkOf own ≠ some g → w'.heap[g]? = w.heap[g]?
  at_ : ∀ g, blkOf v = some g → w.heap.size ≤ g ∨ blkOf own = some g
theorem ins_list {l vs : List Value} {p q r : Nat} (h : p ≤ q) (hl : q + vs.length ≤ l.length) (hr : r = p + vs.length) {A : List Value} (hA : A = l.take r ++ (l.take q).drop p ++ l.drop (r + ((l.take q).drop p).length)) :
    (A.take p ++ vs ++ A.drop (p + vs.length)).take (q + vs.length) = insL p (l.take q) vs := by
  subst hr
  have e1 : A.take p = l.take p := by
    rw [hA, List.append_assoc, List.take_append_of_le_length (by rw [List.length_take]; omega), List.take_take]
    congr 1; omega
  have e2 : A.drop (p + vs.length) = (l.take q).drop p ++ l.drop (p + vs.length + ((l.take q).drop p).length) := by
    rw [hA, List.append_assoc, List.drop_append_of_le_length (by rw [List.length_take]; omega), List.drop_eq_nil_of_le (by rw [List.length_take]; omega), List.nil_append]
  rw [e1, e2, ← List.append_assoc, List.take_append_of_le_length (by simp; omega), List.take_of_length_le (by simp; omega), insL, List.take_take]
  congr 3; omega
theorem ins_grow {l vs R : List Value} {p q r : Nat} (h : p ≤ q) (hl : q ≤ l.length) (hr : r = p + vs.length) (hR : q + vs.length ≤ R.length) (hRl : R.take p = l.take p) {A : List Value} (hA : A = R.take p ++ vs ++ R.drop (p + vs.length)) :
    (A.take r ++ (l.take q).drop p ++ A.drop (r + ((l.take q).drop p).length)).take (q + vs.length) = insL p (l.take q) vs := by
  subst hr
  have e1 : A.take (p + vs.length) = R.take p ++ vs := by
    rw [hA, List.take_append_of_le_length (by simp; omega), List.take_of_length_le (by simp; omega)]
  rw [e1, List.take_append_of_le_length (by simp; omega), List.take_of_length_le (by simp; omega), insL, hRl, List.take_take]
  congr 3; omega
def insF (i : Nat) (F G : Nat → Nat → PV) : Nat → Nat → PV := fun k j => if k < i then F k j else if k = i then G 0 j else F (k - 1) j
theorem insL_lo {k m : Nat} {xs vs : List Value} (h : k ≤ xs.length) (hm : m < k) : (insL k xs vs)[m]? = xs[m]? := by
  unfold insL
  rw [List.append_assoc, List.getElem?_append_left (by rw [List.length_take]; omega), List.getElem?_take, if_pos hm]
theorem insL_mid {k m : Nat} {xs vs : List Value} (h : k ≤ xs.length) (hm : m < vs.length) : (insL k xs vs)[k + m]? = vs[m]? := by
  unfold insL
  rw [List.getElem?_append_left (by simp; omega), List.getElem?_append_right (by simp; omega)]
  congr 1; simp; omega
theorem insL_hi {k m : Nat} {xs vs : List Value} (h : k ≤ xs.length) (hm : k ≤ m) : (insL k xs vs)[vs.length + m]? = xs[m]? := by
  unfold insL
  rw [List.getElem?_append_right (by simp; omega), List.getElem?_drop]
  congr 1; simp; omega
theorem insL_rep {imm : Imm} {s n i : Nat} {F G : Nat → Nat → PV} {xs vs : List Value} (hx : xs.length = n * s) (hv : vs.length = 1 * s) (hi : i ≤ n)
    (h1 : ∀ k j, k < n → j < s → ∃ x, xs[k * s + j]? = some x ∧ RepP imm (F k j) x) (h2 : ∀ k j, k < 1 → j < s → ∃ x, vs[k * s + j]? = some x ∧ RepP imm (G k j) x) :
    ∀ k j, k < n + 1 → j < s → ∃ x, (insL (i * s) xs vs)[k * s + j]? = some x ∧ RepP imm (insF i F G k j) x := by
  intro k j hk hj
  have hle : i * s ≤ xs.length := by rw [hx]; exact Nat.mul_le_mul_right _ hi
  rcases Nat.lt_trichotomy k i with h | h | h
  · have hm : k * s + j < i * s := by
      have : (k + 1) * s ≤ i * s := Nat.mul_le_mul_right _ h
      rw [Nat.add_mul, Nat.one_mul] at this
      omega
    rw [insL_lo hle hm, insF, if_pos h]
    exact h1 k j (by omega) hj
  · subst h
    rw [insL_mid hle (by omega), insF, if_neg (by omega), if_pos rfl]
    simpa using h2 0 j (by omega) hj
  · obtain ⟨q, rfl⟩ : ∃ q, k = q + 1 := ⟨k - 1, by omega⟩
    have hm : i * s ≤ q * s := Nat.mul_le_mul_right _ (by omega)
    rw [show (q + 1) * s + j = vs.length + (q * s + j) by rw [hv, Nat.add_mul]; omega, insL_hi hle (by omega), insF, if_neg (by omega), if_neg (by omega), Nat.add_sub_cancel]
    exact h1 q j (by omega) hj
theorem lk_one {id q : Nat} {x ob : HObj} (h : lk [(q, x)] id = some ob) : id = q ∧ ob = x := by
  simp only [lk] at h
  by_cases hk : q = id
  · subst hk
    simp at h
    exact ⟨rfl, h.symm⟩
  · have : Nat.beq q id = false := by
      rw [Bool.eq_false_iff]; exact fun hb => hk (Nat.eq_of_beq_eq_true hb)
    rw [this] at h
    cases h
structure InsC (c : Ctx) (w w' : World) (T s a : Nat) (v : Value) (n : Nat) (ys : List Value) : Prop where
  row : w'.ownsRow 0 T s v (n + 1) ys
  bl : Below 0 w w'
  out : ∀ g, g < w.heap.size → ¬ c.blk a g → w'.heap[g]? = w.heap[g]?
  at_ : ∀ g, blkOf v = some g → w.heap.size ≤ g ∨ c.blk a g
theorem hfun_insC {P : Program} {f : FuncId} {T s n i a b r : Nat} {F G H : Nat → Nat → PV} (hab : Nat.beq a b = false) (hn : n + 1 ≤ maxLen)
    (h : ∀ (w : World) (c : Ctx), Mem c (lk [(a, .arr true s T n F), (b, .arr true s T 1 G)]) w →
      Calls P f #[c.own a, .int .i64 i, c.own b] w fun e w' => ∃ v ys, e = .returned v ∧ InsC c w w' T s a v n ys ∧ ∀ k j, k < n + 1 → j < s → ∃ x, ys[k * s + j]? = some x ∧ RepP c.imm (H k j) x) :
    HFun P f [.one (.ref a n), .one (.p (.raw (.int .i64 i))), .one (.ref b 1)] [(a, .arr true s T n F), (b, .arr true s T 1 G)] (.v (.one (.ref r (n + 1)))) [(r, .arr true s T (n + 1) H)] [] := by
  have hne : a ≠ b := fun h => by subst h; simp at hab
  intro w c us hM hrep
  obtain ⟨u0, u1, u2, rfl, r0, r1, r2⟩ : ∃ u0 u1 u2, us = [u0, u1, u2] ∧ RepH c (lk [(a, .arr true s T n F), (b, .arr true s T 1 G)]) (.ref a n) u0 ∧ RepP c.imm (.raw (.int .i64 i)) u1 ∧ RepH c (lk [(a, .arr true s T n F), (b, .arr true s T 1 G)]) (.ref b 1) u2 := by
    match us, hrep with
    | [u0, u1, u2], ⟨h0, h1, h2, _⟩ => exact ⟨u0, u1, u2, rfl, h0, h1, h2⟩
  have la : lk [(a, HObj.arr true s T n F), (b, .arr true s T 1 G)] a = some (.arr true s T n F) := by simp [lk]
  have lb : lk [(a, HObj.arr true s T n F), (b, .arr true s T 1 G)] b = some (.arr true s T 1 G) := by simp [lk, hab]
  obtain rfl : u0 = c.own a := (r0.2.2 _ _ _ _ la rfl).2 rfl
  obtain rfl : u2 = c.own b := (r2.2.2 _ _ _ _ lb rfl).2 rfl
  obtain ⟨rfl, _⟩ := r1
  obtain ⟨hs, _, oa⟩ := hM.objs a _ la
  refine (h w c hM).mono ?_
  rintro e w' ⟨v, ys, rfl, hE, hrep⟩
  have hold := hE.out
  have hat := hE.at_
  have lr : ∀ id ob, lk [(r, HObj.arr true s T (n + 1) H)] id = some ob → id = r ∧ ob = .arr true s T (n + 1) H := by
    intro id ob hl
    simp only [lk] at hl
    by_cases hk : r = id
    · subst hk
      simp at hl
      exact ⟨rfl, hl.symm⟩
    · have : Nat.beq r id = false := by
        rw [Bool.eq_false_iff]; exact fun hb => hk (Nat.eq_of_beq_eq_true hb)
      rw [this] at hl
      cases hl
  have lrr : lk [(r, HObj.arr true s T (n + 1) H)] r = some (.arr true s T (n + 1) H) := by simp [lk]
  have him : ∀ q ob, c.imm q = some ob → q < w.heap.size := fun q ob hq => (Array.getElem?_eq_some_iff.1 (hM.imm q ob hq)).1
  have hform : v.oneCell' = true := by
    rcases hE.row.2 with ⟨hv, _⟩ | ⟨g, cap, cur, hv, _⟩ <;> (subst hv; rfl)
  refine ⟨v, { c with own := fun k => if k = r then v else c.own k, blk := fun k => if k = r then blkS v else c.blk k }, rfl, ⟨hform, fun l hl => ?_, fun ob s1 e1 n1 ho hd => ?_⟩, ⟨fun id ob hl => ?_, fun id id' ob ob' q hl hl' _ _ => ?_, fun q ob hq => ?_, fun id ob q hl hq => ?_⟩, hE.bl, fun q hq hno => ⟨hold q hq (hno a _ la), rfl⟩, fun id ob q hl hq => ?_, fun id hid => absurd hid (by simp)⟩
  · cases (lr _ _ hl).2
  · obtain ⟨_, rfl⟩ := lr _ _ ho
    simp only [HObj.dim, Option.some.injEq, Prod.mk.injEq] at hd
    obtain ⟨rfl, rfl, rfl⟩ := hd
    exact ⟨Nat.le_refl _, fun _ => by simp⟩
  · obtain ⟨rfl, rfl⟩ := lr _ _ hl
    exact ⟨hs, hn, .inl ⟨by simp, _, by simpa using hE.row, hrep⟩⟩
  · rw [(lr _ _ hl).1, (lr _ _ hl').1]
  · have hq' : c.imm q = some ob := hq
    refine (hold q (him q ob hq') fun hb => ?_).trans (hM.imm q ob hq')
    rw [hM.sep a _ q la hb] at hq'
    cases hq'
  · obtain ⟨rfl, _⟩ := lr _ _ hl
    have hq' : blkOf v = some q := by simpa [blkS] using hq
    show c.imm q = none
    rcases hat q hq' with h1 | h1
    · cases hc : c.imm q with
      | none => rfl
      | some ob => have := him q ob hc; omega
    · exact hM.sep a _ q la h1
  · obtain ⟨rfl, _⟩ := lr _ _ hl
    have hq' : blkOf v = some q := by simpa [blkS] using hq
    rcases hat q hq' with h1 | h1
    · exact .inl h1
    · exact .inr ⟨a, _, la, h1⟩
theorem ins_one {imm : Imm} {s m : Nat} {ys : List Value} {H : Nat → Nat → PV} (hs : 0 < s) (hl : ys.length = m * s) (hr : ∀ k j, k < m → j < s → ∃ x, ys[k * s + j]? = some x ∧ RepP imm (H k j) x) : ∀ x ∈ ys, x.oneCell' = true := by
  intro x hx
  obtain ⟨q, hq, rfl⟩ := List.getElem_of_mem hx
  have hd : q / s < m := by rw [Nat.div_lt_iff_lt_mul hs]; omega
  obtain ⟨x, hx, hr⟩ := hr (q / s) (q % s) hd (Nat.mod_lt _ hs)
  rw [show q / s * s + q % s = q by rw [Nat.mul_comm]; exact Nat.div_add_mod q s, List.getElem?_eq_getElem hq] at hx
  cases hx
  exact hr.oneCell
theorem lk_two {a b : Nat} {x y : HObj} (hab : Nat.beq a b = false) : lk [(a, x), (b, y)] a = some x ∧ lk [(a, x), (b, y)] b = some y := by simp [lk, hab]
theorem hfun_ins {P : Program} {f : FuncId} {T s n i a b r : Nat} {F G : Nat → Nat → PV} (hab : Nat.beq a b = false) (hi : i < n) (hn : n + 1 ≤ maxLen)
    (h : ∀ (w : World) (own vb : Value) (xs vs : List Value), w.ownsRow 0 T s own n xs → w.ownsRow 0 T s vb 1 vs → blkOf own ≠ blkOf vb → (∀ x ∈ xs, x.oneCell' = true) → (∀ x ∈ vs, x.oneCell' = true) →
      Calls P f #[own, .int .i64 i, vb] w fun e w' => ∃ v, e = .returned v ∧ InsEnd w w' T s own v n (insL (i * s) xs vs)) :
    HFun P f [.one (.ref a n), .one (.p (.raw (.int .i64 i))), .one (.ref b 1)] [(a, .arr true s T n F), (b, .arr true s T 1 G)] (.v (.one (.ref r (n + 1)))) [(r, .arr true s T (n + 1) (insF i F G))] [] := by
  have hne : a ≠ b := fun h => by subst h; simp at hab
  refine hfun_insC hab hn fun w c hM => ?_
  obtain ⟨la, lb⟩ := lk_two (x := HObj.arr true s T n F) (y := .arr true s T 1 G) hab
  obtain ⟨hs, _, oa⟩ := hM.objs a _ la
  obtain ⟨_, _, ob⟩ := hM.objs b _ lb
  rcases oa with ⟨ba, xs, oxs, rxs⟩ | ⟨h1, _⟩
  case inr => rcases h1 with h1 | h1 <;> first | (exfalso; omega) | cases h1
  rcases ob with ⟨bb, vs, ovs, rvs⟩ | ⟨h1, _⟩
  case inr => rcases h1 with h1 | h1 <;> first | (exfalso; omega) | cases h1
  have blka : ∃ g, c.blk a g := by
    rw [ba]
    rcases oxs.2 with ⟨_, h0⟩ | ⟨g, cap, cur, hv, _⟩
    · omega
    · exact ⟨g, by rw [hv]; rfl⟩
  obtain ⟨g, hg⟩ := blka
  have hnb : blkOf (c.own a) ≠ blkOf (c.own b) := by
    intro he
    have h1 : blkOf (c.own a) = some g := by have := hg; rw [ba] at this; exact this
    have h2 : c.blk b g := by rw [bb]; exact he.symm.trans h1
    exact hne (hM.inj a b _ _ g la lb hg h2)
  refine (h w (c.own a) (c.own b) xs vs oxs ovs hnb (ins_one hs oxs.1 rxs) (ins_one hs ovs.1 rvs)).mono ?_
  rintro e w' ⟨v, rfl, hE⟩
  exact ⟨v, _, rfl, ⟨hE.row, hE.bl, fun q hq hb => hE.out q hq (fun he => hb (by rw [ba]; exact he)), fun q hq => by rw [ba]; exact hE.at_ q hq⟩, insL_rep oxs.1 ovs.1 (by omega) rxs rvs⟩
theorem hfun_insE {P : Program} {f : FuncId} {S T s bytes n a b r : Nat} {i0 : TypeInfo} {z : Value} {F G : Nat → Nat → PV} (ht : P.underlying S = some (.slice T)) (hi : P.info? T = some i0) (hz : i0.zero = some z) (hsz : i0.size = s) (hby : i0.bytes = bytes) (hzs : z.cells.size = s)
    (hab : Nat.beq a b = false) (hbig : (n + 1) * bytes ≤ 140737488355328) (hn : n + 1 ≤ maxLen)
    (h : ∀ (w w1 : World) (base : Option Addr) (c : Nat) (vb vc : Nat) (v' : Value), n ≤ c → c ≤ maxLen → (base = none → n = 0 ∧ c = 0) → ((Builtin.append_ #[S, S] S #[.slice base n c, .slice (some ⟨vb, 0, none⟩) 1 vc]).run P w = .ok v' w1) →
      Calls P f #[.slice base n c, .int .i64 n, .slice (some ⟨vb, 0, none⟩) 1 vc] w fun e w' => e = .returned v' ∧ w' = w1) :
    HFun P f [.one (.ref a n), .one (.p (.raw (.int .i64 n))), .one (.ref b 1)] [(a, .arr true s T n F), (b, .arr true s T 1 G)] (.v (.one (.ref r (n + 1)))) [(r, .arr true s T (n + 1) (insF n F G))] [] := by
  refine hfun_insC hab hn fun w c hM => ?_
  obtain ⟨la, lb⟩ := lk_two (x := HObj.arr true s T n F) (y := .arr true s T 1 G) hab
  obtain ⟨hs, _, oa⟩ := hM.objs a _ la
  obtain ⟨_, _, ob⟩ := hM.objs b _ lb
  rcases ob with ⟨bb, vs, ovs, rvs⟩ | ⟨h1, _⟩
  case inr => rcases h1 with h1 | h1 <;> first | (exfalso; omega) | cases h1
  have h1v := ins_one hs ovs.1 rvs
  obtain ⟨hvl, ⟨_, h0⟩ | ⟨g2, c2, cur2, e2, _, hg2, hnc2, hcm2, hcs2, hvs⟩⟩ := ovs
  · omega
  have hnews : ∀ j u, vs[j]? = some u → w.cell? ((⟨g2, 0, none⟩ : Addr).add j) = some u := fun j u hj => by
    rw [Addr.add_lit]
    rw [← hvs, List.getElem?_take] at hj
    split at hj
    · rw [World.cell?, hg2]
      simpa using hj
    · cases hj
  rcases oa with ⟨ba, xs, oxs, rxs⟩ | ⟨h1, bn, hsl⟩
  · obtain ⟨v', w1, hrun, hown', hgrow, _, hat⟩ := run_append_own_at (P := P) w 0 S S T i0 z s bytes ht hi hz hsz hby hzs hs (c.own a) n xs oxs ⟨g2, 0, none⟩ 1 c2 vs hvl hnews h1v hn hbig (Nat.zero_le _)
    have hob : ∀ v : Value, (∃ ad k cap, v = .slice ad k cap) → v.ownBlock = blkOf v := by
      rintro v ⟨ad, k, cap, rfl⟩
      cases ad <;> rfl
    have hform : ∃ base cap, c.own a = .slice base n cap ∧ n ≤ cap ∧ cap ≤ maxLen ∧ (base = none → n = 0 ∧ cap = 0) := by
      rcases oxs.2 with ⟨hv, h0⟩ | ⟨g, cap, cur, hv, _, _, h1, h2, _⟩
      · subst h0; exact ⟨none, 0, hv, Nat.le_refl _, Nat.zero_le _, fun _ => ⟨rfl, rfl⟩⟩
      · exact ⟨_, cap, hv, h1, h2, fun h => by cases h⟩
    obtain ⟨base, cap, hv, h1, h2, h3⟩ := hform
    have e0 : (c.own a).ownBlock = blkOf (c.own a) := hob _ ⟨_, _, _, hv⟩
    have e1 : v'.ownBlock = blkOf v' := hob _ (by
      rcases hown'.2 with ⟨hv, _⟩ | ⟨g, cap, cur, hv, _⟩
      · exact ⟨_, _, _, hv⟩
      · exact ⟨_, _, _, hv⟩)
    rw [e0] at hgrow
    rw [e1, e0] at hat
    have hins : insL (n * s) xs vs = xs ++ vs := by simp [insL, ← oxs.1]
    have hrep := insL_rep (imm := c.imm) oxs.1 hvl (Nat.le_refl n) rxs rvs
    rw [hins] at hrep
    rw [e2] at *
    rw [hv] at hrun ⊢
    refine (h w w1 base cap g2 c2 v' h1 h2 h3 hrun).mono ?_
    rintro e w' ⟨rfl, rfl⟩
    refine ⟨_, _, rfl, ⟨hown', ⟨hgrow.os, hgrow.tape, hgrow.output, hgrow.size, fun k hk => absurd hk (Nat.not_lt_zero k), run_drawn _ hrun⟩, fun q hq hb => hgrow.block q hq (fun h => hb (by rw [ba]; exact h.symm)), fun q hq => ?_⟩, hrep⟩
    rcases hat with h4 | h4
    · exact .inr (by rw [ba]; exact h4.symm.trans hq)
    · rw [hq] at h4
      simp only [Option.some.injEq] at h4
      exact .inl (by omega)
  · obtain rfl : n = 0 := by rcases h1 with h1 | h1 <;> first | exact h1 | cases h1
    obtain ⟨ad, cap, hv, _, _, hcl, _⟩ := hsl
    obtain rfl : cap = 0 := hcl rfl
    have hrep := insL_rep (imm := c.imm) (xs := []) (F := F) (n := 0) (s := s) (by simp) hvl (Nat.le_refl 0) (fun k j hk => by omega) rvs
    have hins : insL (0 * s) [] vs = vs := by simp [insL]
    rw [hins] at hrep
    rw [e2, hv]
    cases ad with
    | none =>
      obtain ⟨v', w1, hrun, hown', hgrow, _, hat⟩ := run_append_own_at (P := P) w 0 S S T i0 z s bytes ht hi hz hsz hby hzs hs (.slice none 0 0) 0 [] (World.ownsRow_nil w _ _ _) ⟨g2, 0, none⟩ 1 c2 vs hvl hnews h1v hn hbig (Nat.zero_le _)
      have e1 : v'.ownBlock = blkOf v' := by
        rcases hown'.2 with ⟨hv, _⟩ | ⟨g, cap, cur, hv, _⟩ <;> (subst hv; rfl)
      refine (h w w1 none 0 g2 c2 v' (Nat.le_refl _) (Nat.zero_le _) (fun _ => ⟨rfl, rfl⟩) hrun).mono ?_
      rintro e w' ⟨rfl, rfl⟩
      refine ⟨_, _, rfl, ⟨hown', ⟨hgrow.os, hgrow.tape, hgrow.output, hgrow.size, fun k hk => absurd hk (Nat.not_lt_zero k), run_drawn _ hrun⟩, fun q hq hb => hgrow.block q hq (fun h => by cases h), fun q hq => ?_⟩, hrep⟩
      rw [e1, hq] at hat
      rcases hat with h4 | h4
      · cases h4
      · simp only [Option.some.injEq] at h4
        exact .inl (by omega)
    | some ba =>
      have hr := run_append_grow (P := P) w S S T i0 z ht hi hz ba 0 0 [] (by simp) (fun k u hk => by simp at hk) ⟨g2, 0, none⟩ 1 c2 vs (by rw [hsz]; exact hvl) hnews (by omega) (by unfold maxLen at hn; omega) (growslice_fits (by omega) (by rw [hby]; exact hbig))
      have hge := grownCap_ge w (0 + 1) 0 T
      have hcm : grownCap w (0 + 1) 0 T ≤ maxLen := grownCap_le_maxLen w (0 + 1) 0 T hn
      refine (h w _ (some ba) 0 g2 c2 _ (Nat.le_refl _) (Nat.zero_le _) (fun h => by cases h) hr).mono ?_
      rintro e w' ⟨rfl, rfl⟩
      refine ⟨_, vs, rfl, ⟨⟨by rw [hvl, Nat.zero_add], .inr ⟨w.heap.size, _, _, rfl, Nat.zero_le _, heap_alloc_new w.drew _, hge, hcm, ?_, ?_⟩⟩, ⟨rfl, rfl, rfl, ?_, fun k hk => absurd hk (Nat.not_lt_zero k), Nat.le_succ _⟩, fun q hq hb => heap_alloc_old w.drew _ hq, fun q hq => ?_⟩, hrep⟩
      · simp only [Array.size_append, List.size_toArray, size_zeroCells, hzs, hvl, List.length_nil]
        rw [Nat.zero_add, ← Nat.add_mul]
        congr 1
        omega
      · simp only [Array.toList_append, List.nil_append, Nat.zero_add]
        rw [← hvl]
        exact List.take_left
      · show _ ≤ (w.heap.push _).size
        rw [Array.size_push]; omega
      · have : w.heap.size = q := by simpa [blkOf] using hq
        exact .inl (by omega)
theorem HFun.res1 {P : Program} {f : FuncId} {args : List HC} {o1 : List (Nat × HObj)} {x k s e : Nat} {wr : Bool} {F : Nat → Nat → PV} (y : Nat) (h : HFun P f args o1 (.v (.one (.ref x k))) [(x, .arr wr s e k F)] []) :
    HFun P f args o1 (.v (.one (.ref y k))) [(y, .arr wr s e k F)] [] := by
  intro w c us hM hrep
  refine (h w c us hM hrep).mono ?_
  rintro en w' ⟨v, c', rfl, hv, hm, hb, h1, h2, _⟩
  have lx : lk [(x, HObj.arr wr s e k F)] x = some (.arr wr s e k F) := by simp [lk]
  have ly : lk [(y, HObj.arr wr s e k F)] y = some (.arr wr s e k F) := by simp [lk]
  have hvx : v = c'.own x := (hv.2.2 _ _ _ _ lx rfl).2 rfl
  have ho := hm.objs x _ lx
  refine ⟨v, { c' with own := fun q => if q = y then c'.own x else c'.own q, blk := fun q => if q = y then c'.blk x else c'.blk q, rows := fun q => if q = y then c'.rows x else c'.rows q }, rfl, ⟨hv.1, fun l hl => (by cases (lk_one hl).2), fun ob s1 e1 n1 ho1 hd => ?_⟩, ⟨fun id ob hl => ?_, fun id id' ob ob' q hl hl' _ _ => by rw [(lk_one hl).1, (lk_one hl').1], hm.imm, fun id ob q hl hq => ?_⟩, hb, h1, fun id ob q hl hq => ?_, fun id hid => absurd hid (by simp)⟩
  · obtain ⟨_, rfl⟩ := lk_one ho1
    simp only [HObj.dim, Option.some.injEq, Prod.mk.injEq] at hd
    obtain ⟨rfl, rfl, rfl⟩ := hd
    exact ⟨Nat.le_refl _, fun _ => by simp [hvx]⟩
  · obtain ⟨rfl, rfl⟩ := lk_one hl
    obtain ⟨a0, a1, a2⟩ := ho
    exact ⟨a0, a1, by simpa using a2⟩
  · obtain ⟨rfl, _⟩ := lk_one hl
    exact hm.sep x _ q lx (by simpa using hq)
  · obtain ⟨rfl, _⟩ := lk_one hl
    exact h2 x _ q lx (by simpa using hq)
theorem hfun_new {P : Program} {f : FuncId} {T s a : Nat} {y : Value} {F : Nat → Nat → PV} (hs : 0 < s)
    (h : ∀ (w : World) (ad : Option Addr), Calls P f #[.slice ad 0 0, y] w fun e w' => ∃ v, e = .returned v ∧ Below w.heap.size w w' ∧ (v = .slice ad 0 0 ∨ w'.ownsRow 0 T s v 0 [] ∧ ∀ g, blkOf v = some g → w.heap.size ≤ g)) :
    HFun P f [.one (.p (rawP (.slice none 0 0))), .one (.p (.raw y))] [] (.v (.one (.ref a 0))) [(a, .arr true s T 0 F)] [] := by
  intro w c us hM hrep
  obtain ⟨ad, rfl⟩ : ∃ ad, us = [.slice ad 0 0, y] := by
    match us, hrep with
    | [u0, u1], ⟨h0, h1, _⟩ =>
      obtain ⟨ad, cap, hv, _, _, hc, _⟩ := h0
      obtain rfl : cap = 0 := hc rfl
      exact ⟨ad, by rw [hv, show u1 = y from h1.1]⟩
  refine (h w ad).mono ?_
  rintro e w' ⟨v, rfl, hb, hor⟩
  have la : lk [(a, HObj.arr true s T 0 F)] a = some (.arr true s T 0 F) := by simp [lk]
  have him : ∀ q ob, c.imm q = some ob → q < w.heap.size := fun q ob hq => (Array.getElem?_eq_some_iff.1 (hM.imm q ob hq)).1
  have hform : v.oneCell' = true := by
    rcases hor with rfl | ⟨hrow, _⟩
    · rfl
    · rcases hrow.2 with ⟨hv, _⟩ | ⟨g, cap, cur, hv, _⟩ <;> (subst hv; rfl)
  have hbk : ∃ bk : Nat → Prop, (∀ g, bk g → w.heap.size ≤ g) ∧ (bk = blkS v ∧ w'.ownsRow 0 T s v 0 [] ∨ bk = noB ∧ RepP c.imm (.sl 0 s true F) v) := by
    rcases hor with rfl | ⟨hrow, hat⟩
    · exact ⟨noB, fun g hg => hg.elim, .inr ⟨rfl, ad, 0, rfl, Nat.le_refl _, Nat.zero_le _, fun _ => rfl, fun h => absurd h (Nat.lt_irrefl 0)⟩⟩
    · exact ⟨blkS v, hat, .inl ⟨rfl, hrow⟩⟩
  obtain ⟨bk, hat, hok⟩ := hbk
  refine ⟨v, { c with own := fun q => if q = a then v else c.own q, blk := fun q => if q = a then bk else c.blk q }, rfl, ⟨hform, fun l hl => (by cases (lk_one hl).2), fun ob s1 e1 n1 ho1 hd => ?_⟩, ⟨fun id ob hl => ?_, fun id id' ob ob' q hl hl' _ _ => by rw [(lk_one hl).1, (lk_one hl').1], fun q ob hq => (hb.block q (him q ob hq)).trans (hM.imm q ob hq), fun id ob q hl hq => ?_⟩, ⟨hb.os, hb.tape, hb.output, hb.size, fun k hk => absurd hk (Nat.not_lt_zero k), hb.drawn⟩, fun q hq _ => ⟨hb.block q hq, rfl⟩, fun id ob q hl hq => ?_, fun id hid => absurd hid (by simp)⟩
  · obtain ⟨_, rfl⟩ := lk_one ho1
    simp only [HObj.dim, Option.some.injEq, Prod.mk.injEq] at hd
    obtain ⟨rfl, rfl, rfl⟩ := hd
    exact ⟨Nat.le_refl _, fun _ => by simp⟩
  · obtain ⟨rfl, rfl⟩ := lk_one hl
    rcases hok with ⟨h1, h2⟩ | ⟨h1, h2⟩
    · exact ⟨hs, Nat.zero_le _, .inl ⟨by simpa using h1, [], by simpa using h2, fun i j hi => by omega⟩⟩
    · exact ⟨hs, Nat.zero_le _, .inr ⟨.inr rfl, by simpa using h1, by simpa using h2⟩⟩
  · obtain ⟨rfl, _⟩ := lk_one hl
    have hq' : bk q := by simpa using hq
    show c.imm q = none
    cases hc : c.imm q with
    | none => rfl
    | some ob => have := him q ob hc; have := hat q hq'; omega
  · obtain ⟨rfl, _⟩ := lk_one hl
    have hq' : bk q := by simpa using hq
    exact .inl (hat q hq')
def HE (nt : Nat) (st : HSt) (Q : HSt → Prop) : Prop := ∀ w0 m0 a w, Rel w0 m0 nt st.den a w → ∃ st' : HSt, Q st' ∧ Rel w0 m0 nt st'.den a w
theorem he_done {nt : Nat} {st : HSt} {Q : HSt → Prop} (h : Q st) : HE nt st Q := fun _ _ _ _ hr => ⟨st, h, hr⟩
theorem he_sub {nt : Nat} {st : HSt} {Q : HSt → Prop} (K : HSt) (hK : Sub K st) (h : HE nt K Q) : HE nt st Q := fun w0 m0 a w hr => h w0 m0 a w (hr.sub hK)
theorem hw_fin {ro : Option Nat} {P : Program} {nt : Nat} {c : Code} {st : HSt} {Q : Exit → HSt → Prop} (h : HW (ro := ro) P nt c st fun e s1 => HE nt s1 (Q e)) : HW (ro := ro) P nt c st Q := fun w0 m0 a w hr => by
  refine wpIn_mono (h w0 m0 a w hr) ?_
  rintro e a' w' ⟨s1, h1, h2⟩
  exact h1 w0 m0 a' w' h2
theorem rel_adopt_cell {nt : Nat} {st : HSt} {w0 : World} {m0 : Old} {a : Act} {w : World} (bx off id : Nat) (wr : Bool) {n s' : Nat} {f' : Nat → Nat → PV} {l : List HV} (s : Nat) (e : TypeId) (f : Nat → Nat → PV) (hs : 0 < s) (hb : look st.o bx = some (.box l)) (hl : l[off]? = some (.p (.sl n s' true f'))) (hco : CoP (.sl n s' true f') (.sl n s true f)) (hwr : wr = false ∨ n = 0) (hn : newB id st = true) (hne : Nat.beq bx id = false)
    (hr : Rel w0 m0 nt st.den a w) : Rel w0 m0 nt (HSt.den ⟨st.t, (bx, some (.box (setAt l off [.ref id n]))) :: (id, some (.arr wr s e n f)) :: st.o⟩) a w := by
  obtain ⟨hnm, hno⟩ := newB_spec hn
  obtain ⟨cc, hold, hrr⟩ := hr
  have hbi : bx ≠ id := by rintro rfl; simp at hne
  obtain ⟨b0, C0, e0, p1, p2, p3, p4, p5⟩ := hrr.objs bx _ hb
  obtain ⟨u, hu, hur⟩ := p5.get off _ hl
  have hx : RepP cc.imm (.sl n s true f) u := hco _ _ hur
  have hnm' : n ≤ maxLen := by obtain ⟨ad, cap, _, q1, q2, _⟩ := hx; omega
  have hfresh := hrr.fresh id hnm hno (.arr wr s e n f) w u noB (Grw.refl w none) (fun b hb => hb.elim) ⟨hs, hnm', .inr ⟨hwr, by simp, by simpa using hx⟩⟩
  rw [← den_put] at hfresh
  have hb' : (HSt.den ⟨st.t, (id, some (.arr wr s e n f)) :: st.o⟩).o bx = some (.box l) := by
    simp only [HSt.den, look_cons, hbi, if_false]; exact hb
  have hevo : ∀ (c1 : Ctx), c1.own = (fun k => if k = id then u else cc.own k) → Evo { old := cc.old, imm := cc.imm, tab := cc.tab, own := fun k => if k = id then u else cc.own k, blk := fun k => if k = id then noB else cc.blk k, rows := cc.rows } (HSt.den ⟨st.t, (id, some (.arr wr s e n f)) :: st.o⟩).o c1 ((HSt.den ⟨st.t, (id, some (.arr wr s e n f)) :: st.o⟩).setO bx (some (.box (setAt l off [.ref id n])))).o bx := fun c1 h1 =>
    .inr (.inl ⟨l, setAt l off [.ref id n], hb', by simp [S.setO], by rw [h1]⟩)
  have hown : (fun k => if k = bx then (fun k => if k = id then u else cc.own k) bx else (fun k => if k = id then u else cc.own k) k) = fun k => if k = id then u else cc.own k := by
    funext k
    by_cases hk : k = bx
    · subst hk; simp
    · simp [hk]
  have hw := hfresh.write bx (.box l) hb' (.box (setAt l off [.ref id n])) w ((fun k => if k = id then u else cc.own k) bx) ((fun k => if k = id then noB else cc.blk k) bx) none (Grw.refl w _) (fun _ e => by cases e) (hevo _ (by exact hown)) (fun b hb => .inl hb) (by
    refine ⟨b0, C0, e0, by simpa [hbi] using p1, by simpa [hbi] using p2, p3, p4, ?_⟩
    have hoff : off < l.length := (List.getElem?_eq_some_iff.1 hl).1
    have hcl := p5.length
    refine RepHL.of_get ?_ fun k x u' hx' hu' => ?_
    · simp only [setAt, List.length_append, List.length_take, List.length_drop, List.length_singleton]; omega
    · have hx2 := hx'
      unfold setAt at hx2
      rw [getElem?_splice l [HV.ref id n] off k (by simp; omega)] at hx2
      by_cases hk : k = off
      · subst hk
        simp at hx2
        subst hx2
        rw [hu] at hu'
        simp only [Option.some.injEq] at hu'
        subst hu'
        refine ⟨RepP.oneCell hx, fun l2 => by simp [S.setO, HSt.den, look_cons, Ne.symm hbi], fun ob1 s1 e1 n1 ho hd1 => ?_⟩
        simp only [S.setO, HSt.den, look_cons, Ne.symm hbi, if_false, if_true, Option.some.injEq] at ho
        subst ho
        simp only [HObj.dim, Option.some.injEq, Prod.mk.injEq] at hd1
        obtain ⟨rfl, rfl, rfl⟩ := hd1
        exact ⟨Nat.le_refl _, fun _ => by simp [Ne.symm hbi]⟩
      · rw [if_neg (by simp; omega)] at hx2
        obtain ⟨u2, hu2, hr2⟩ := p5.get k x hx2
        rw [hu'] at hu2
        simp only [Option.some.injEq] at hu2
        subst hu2
        refine RepH.evo (c := cc) (o := st.den.o) (Imm.le.refl cc.imm) (fun j hj => ?_) hr2
        have hji : j ≠ id := by
          rintro rfl
          exact hnm.2.1 bx _ hb ⟨x, List.mem_of_getElem? hx2, hj⟩
        by_cases hjb : j = bx
        · subst hjb; exact .inr (.inl ⟨l, setAt l off [.ref id n], hb, by simp [S.setO], by simp [hji]⟩)
        · exact Evo.of_same (by simp [S.setO, hjb, HSt.den, look_cons, hji]) (by simp [hjb, hji]))
  have e : HSt.den ⟨st.t, (bx, some (.box (setAt l off [.ref id n]))) :: (id, some (.arr wr s e n f)) :: st.o⟩ = (HSt.den ⟨st.t, (id, some (.arr wr s e n f)) :: st.o⟩).setO bx (some (.box (setAt l off [.ref id n]))) := by
    unfold HSt.den S.setO
    simp only [S.mk.injEq, true_and]
    funext k
    simp only [look_cons]
  rw [e]
  exact ⟨_, (by exact hold), hw⟩
theorem he_adopt_cell {nt : Nat} {st : HSt} {Q : HSt → Prop} (bx off id : Nat) (wr : Bool) {n s' : Nat} {f' : Nat → Nat → PV} {l : List HV} (s : Nat) (e : TypeId) (f : Nat → Nat → PV) (hs : 0 < s) (hb : look st.o bx = some (.box l)) (hl : l[off]? = some (.p (.sl n s' true f'))) (hco : CoP (.sl n s' true f') (.sl n s true f)) (hwr : wr = false ∨ n = 0) (hn : newB id st = true) (hne : Nat.beq bx id = false)
    (h : HE nt ⟨st.t, (bx, some (.box (setAt l off [.ref id n]))) :: (id, some (.arr wr s e n f)) :: st.o⟩ Q) : HE nt st Q := fun w0 m0 a w hr => h w0 m0 a w (rel_adopt_cell bx off id wr s e f hs hb hl hco hwr hn hne hr)
end Go.Hx
end
section
namespace Go.Hx
open Go.RowKit
section
variable {w0 : World} {nt : Nat} {c : Ctx} {s : S} {a : Act} {w : World}
theorem RelC.short (h : RelC w0 nt c s a w) {id id' sz n m : Nat} {el : TypeId} {f : Nat → Nat → PV} (ho : s.o id = some (.arr true sz el n f)) (hm : m ≤ n) (hnm : NM s id') (hno : s.o id' = none) {u : Value} (hu : RepH c s.o (.win id n 0 m) u) :
    ∃ c', c'.old = c.old ∧ RelC w0 nt c' ((s.setO id none).setO id' (some (.arr true sz el m f))) a w ∧ RepHR c' ((s.setO id none).setO id' (some (.arr true sz el m f))).o (.v (.one (.ref id' m))) u := by
  have hne : id ≠ id' := fun e => by rw [← e, ho] at hno; cases hno
  obtain ⟨ad, ad', cap, q1, q2, q3, q4, q5, q6⟩ := win_own hu ho rfl
  obtain ⟨h0, h1, h5⟩ := h.objs id _ ho
  have hold : ∀ k ob, ((s.setO id none).setO id' (some (.arr true sz el m f))).o k = some ob → k ≠ id' → s.o k = some ob ∧ k ≠ id := fun k ob hk hk' => by
    simp only [S.setO, if_neg hk'] at hk
    by_cases hki : k = id
    · subst hki; simp at hk
    · rw [if_neg hki] at hk; exact ⟨hk, hki⟩
  obtain ⟨bk, hbk, hok⟩ : ∃ bk : Nat → Prop, (∀ b, bk b → c.blk id b) ∧ ∀ c' : Ctx, c'.imm = c.imm → c'.own id' = u → c'.blk id' = bk → ∀ o' : Objs, ObjOk 0 c' o' w id' (.arr true sz el m f) := by
    rcases h5 with ⟨h6, xs, h2, h4⟩ | ⟨h6 | h6, h7, h8⟩
    · obtain ⟨hxl, hrow⟩ := h2
      rcases hrow with ⟨hv0, hz⟩ | ⟨g, cap', cur, hown, hbase, hheap, hnc, hcm, hcs, htake⟩
      · rw [hv0] at q1
        simp only [Value.slice.injEq] at q1
        obtain ⟨rfl, _, rfl⟩ := q1
        obtain rfl : n = 0 := by omega
        obtain rfl : m = 0 := by omega
        refine ⟨noB, fun b hb => hb.elim, fun c' e1 e2 e3 o' => ⟨h0, Nat.zero_le _, .inr ⟨.inr rfl, e3, ?_⟩⟩⟩
        rw [e2, q2]
        exact ⟨ad', 0, rfl, Nat.le_refl _, Nat.zero_le _, fun _ => rfl, fun h => absurd h (Nat.lt_irrefl 0)⟩
      · rw [hown] at q1
        simp only [Value.slice.injEq, true_and] at q1
        obtain ⟨rfl, rfl⟩ := q1
        by_cases hcap : cap' = 0
        · subst hcap
          obtain rfl : m = 0 := by omega
          refine ⟨noB, fun b hb => hb.elim, fun c' e1 e2 e3 o' => ⟨h0, Nat.zero_le _, .inr ⟨.inr rfl, e3, ?_⟩⟩⟩
          rw [e2, q2]
          exact ⟨ad', 0, rfl, Nat.le_refl _, Nat.zero_le _, fun _ => rfl, fun h => absurd h (Nat.lt_irrefl 0)⟩
        · obtain rfl := q6 (by omega)
          simp only [Option.map_some, add_lit, Nat.zero_mul, Nat.add_zero, Nat.sub_zero] at q2
          have hmul : m * sz ≤ n * sz := Nat.mul_le_mul_right _ hm
          refine ⟨blkS u, fun b hb => by rw [h6, hown]; rw [q2] at hb; exact hb, fun c' e1 e2 e3 o' => ⟨h0, Nat.le_trans hm h1, .inl ⟨by rw [e2, e3], xs.take (m * sz), ⟨by rw [List.length_take, hxl, Nat.min_eq_left hmul], .inr ⟨g, cap', cur, by rw [e2, q2], hbase, hheap, by omega, hcm, hcs, ?_⟩⟩, fun i j hi hj => ?_⟩⟩⟩
          · rw [← htake, List.take_take, Nat.min_eq_left hmul]
          · obtain ⟨x, hx, hr⟩ := h4 i j (by omega) hj
            refine ⟨x, ?_, by rw [e1]; exact hr⟩
            rw [List.getElem?_take, if_pos (mul_idx hi hj)]
            exact hx
    · cases h6
    · subst h6
      obtain rfl : m = 0 := by omega
      refine ⟨noB, fun b hb => hb.elim, fun c' e1 e2 e3 o' => ⟨h0, Nat.zero_le _, .inr ⟨.inr rfl, e3, ?_⟩⟩⟩
      obtain ⟨ad2, cap2, r1, r2, r3, r4, _⟩ := h8
      rw [q1] at r1
      simp only [Value.slice.injEq, true_and] at r1
      obtain ⟨rfl, rfl⟩ := r1
      obtain rfl : cap = 0 := r4 rfl
      rw [e2, q2]
      exact ⟨ad', 0, rfl, Nat.le_refl _, Nat.zero_le _, fun _ => rfl, fun h => absurd h (Nat.lt_irrefl 0)⟩
  have hevo : ∀ k, k ≠ id' → Evo c s.o { c with own := fun k => if k = id' then u else c.own k, blk := fun k => if k = id' then bk else c.blk k } ((s.setO id none).setO id' (some (.arr true sz el m f))).o k := fun k hk => by
    by_cases hki : k = id
    · subst hki
      exact .inl (by simp [S.setO, hk])
    · exact Evo.of_same (by simp [S.setO, hk, hki]) (by simp [hk])
  refine ⟨{ c with own := fun k => if k = id' then u else c.own k, blk := fun k => if k = id' then bk else c.blk k }, rfl, ⟨h.defers, h.size, h.below, fun d x hx => ?_, fun k ob hk => ?_, fun i i' obi obi' b hi hi' hb hb' => ?_, h.imm, fun k ob b hk hb => ?_, h.was, h.frm, fun k ob b hk hb => ?_, fun k hk => ?_⟩, ?_⟩
  · exact (h.tmps d x hx).evo (Imm.le.refl c.imm) fun k hkm => hevo k (by rintro rfl; exact hnm.1 d x hx hkm)
  · by_cases hk' : k = id'
    · subst hk'
      obtain rfl : ob = .arr true sz el m f := by simpa [S.setO] using hk.symm
      refine hok _ ?_ ?_ ?_ _ <;> first | rfl | exact if_pos rfl
    · obtain ⟨hk1, hk2⟩ := hold k ob hk hk'
      exact (h.objs k ob hk1).keep (Imm.le.refl c.imm) (by simp [hk']) (by simp [hk']) (fun j hj => hevo j (by rintro rfl; exact hnm.2.1 k ob hk1 hj)) fun b _ => rfl
  · have hone : ∀ k ob b, k ≠ id' → ((s.setO id none).setO id' (some (.arr true sz el m f))).o k = some ob → c.blk k b → bk b → False := fun k ob b hk' hk hb hbb => by
      obtain ⟨hk1, hk2⟩ := hold k ob hk hk'
      exact hk2 (h.inj k id ob _ b hk1 ho hb (hbk b hbb))
    by_cases e1 : i = id'
    · by_cases e2 : i' = id'
      · rw [e1, e2]
      · exact (hone i' obi' b e2 hi' (by simpa [e2] using hb') (by simpa [e1] using hb)).elim
    · by_cases e2 : i' = id'
      · exact (hone i obi b e1 hi (by simpa [e1] using hb) (by simpa [e2] using hb')).elim
      · exact h.inj i i' obi obi' b (hold i obi hi e1).1 (hold i' obi' hi' e2).1 (by simpa [e1] using hb) (by simpa [e2] using hb')
  · by_cases hk' : k = id'
    · exact h.sep id _ b ho (hbk b (by simpa [hk'] using hb))
    · exact h.sep k ob b (hold k ob hk hk').1 (by simpa [hk'] using hb)
  · by_cases hk' : k = id'
    · exact h.fsep id _ b ho (hbk b (by simpa [hk'] using hb))
    · exact h.fsep k ob b (hold k ob hk hk').1 (by simpa [hk'] using hb)
  · exact (h.fixed k hk).trans (hevo k (by have := hnm.2.2; omega))
  · refine ⟨hu.1, fun l => by simp [S.setO], fun ob2 s2 e2 n2 ho2 hd2 => ?_⟩
    simp only [S.setO, if_true, Option.some.injEq] at ho2
    subst ho2
    simp only [HObj.dim, Option.some.injEq, Prod.mk.injEq] at hd2
    obtain ⟨rfl, rfl, rfl⟩ := hd2
    exact ⟨Nat.le_refl _, fun _ => by simp⟩
end
section
variable {ro : Option Nat} {P : Program} {nt : Nat} {st : HSt} {Q : Exit → HSt → Prop}
theorem hw_short {c : Code} (d id2 : Nat) {id n n' i m s : Nat} {e : TypeId} {f : Nat → Nat → PV} (hd : look st.t d = some (.v (.one (.win id n i m)))) (ho : look st.o id = some (.arr true s e n' f)) (hn : n' = n) (hi : i = 0) (hm : m ≤ n) (hnew : newB id2 st = true)
    (h : HW (ro := ro) P nt c ⟨(d, some (.v (.one (.ref id2 m)))) :: st.t, (id2, some (.arr true s e m f)) :: (id, none) :: st.o⟩ Q) : HW (ro := ro) P nt c st Q := by
  subst hn hi
  obtain ⟨hnm, hno⟩ := newB_spec hnew
  refine hw_put ⟨st.t, (id2, some (.arr true s e m f)) :: (id, none) :: st.o⟩ d (.v (.one (.ref id2 m))) (fun w0 m0 a w hr => ?_) h
  obtain ⟨cc, hold, hrr⟩ := hr
  obtain ⟨c', e1, e2, e3⟩ := hrr.short ho hm hnm hno (hrr.tmps d _ hd)
  have e4 : (HSt.den ⟨st.t, (id2, some (.arr true s e m f)) :: (id, none) :: st.o⟩) = (st.den.setO id none).setO id2 (some (.arr true s e m f)) := by
    unfold HSt.den S.setO
    simp [look_cons]
  exact ⟨c', e1.trans hold, by rw [e4]; exact e2, by rw [e4]; exact e3⟩
theorem hw_rename {c : Code} (d id2 : Nat) {id n n' s : Nat} {e : TypeId} {f : Nat → Nat → PV} (hd : look st.t d = some (.v (.one (.ref id n)))) (ho : look st.o id = some (.arr true s e n' f)) (hn : n' = n) (hnew : newB id2 st = true)
    (h : HW (ro := ro) P nt c ⟨(d, some (.v (.one (.ref id2 n)))) :: st.t, (id2, some (.arr true s e n f)) :: (id, none) :: st.o⟩ Q) : HW (ro := ro) P nt c st Q := by
  subst hn
  obtain ⟨hnm, hno⟩ := newB_spec hnew
  refine hw_put ⟨st.t, (id2, some (.arr true s e n' f)) :: (id, none) :: st.o⟩ d (.v (.one (.ref id2 n'))) (fun w0 m0 a w hr => ?_) h
  obtain ⟨cc, hold, hrr⟩ := hr
  have hu : RepH cc st.den.o (.ref id n') (a.tmps.getD d undef) := hrr.tmps d _ hd
  have hw : RepH cc st.den.o (.win id n' 0 n') (a.tmps.getD d undef) := by
    refine ⟨hu.1, hu.2.1, fun ob s2 e2 n2 ho2 hd2 => ⟨(hu.2.2 _ _ _ _ ho2 hd2).1, fun hk => ?_⟩⟩
    have he := (hu.2.2 _ _ _ _ ho2 hd2).2 hk
    obtain rfl : ob = .arr true s e n' f := Option.some.inj (ho2.symm.trans ho)
    simp only [HObj.dim, Option.some.injEq, Prod.mk.injEq] at hd2
    obtain ⟨rfl, rfl, rfl⟩ := hd2
    obtain ⟨ad, cap, hv, hc1, hc2⟩ := arr_any (hrr.objs _ _ ho2)
    exact ⟨ad, ad, cap, hv, by rw [he, hv]; rfl, by omega, hc1, hc2, fun _ => by cases ad <;> simp [addr_add_zero]⟩
  obtain ⟨c', e1, e2, e3⟩ := hrr.short ho (Nat.le_refl _) hnm hno hw
  have e4 : (HSt.den ⟨st.t, (id2, some (.arr true s e n' f)) :: (id, none) :: st.o⟩) = (st.den.setO id none).setO id2 (some (.arr true s e n' f)) := by
    unfold HSt.den S.setO
    simp [look_cons]
  exact ⟨c', e1.trans hold, by rw [e4]; exact e2, by rw [e4]; exact e3⟩
end
end Go.Hx
end
