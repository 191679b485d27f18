/- A part of the proof: lemmas for the theorem of this claim, merged by a program of ours out of Hx22, W42, Sp20. -/
import Derived.Test.YtdcdbghdgjlhhaaGreatN12
import Derived.Test.YtdcdbghdgjlhhaaGreatN24
import Derived.Test.YtdcdbghdgjlhhaaGreatN33
set_option linter.all false
section
namespace Go.Hx
open Go.Proofs Go.Lib Go.RowKit
universe u in
theorem ovl_match {r : Sort u} (f1 : (a : Option Addr) → (la cap : Nat) → (b : Option Addr) → (lb cap_1 : Nat) → r) (f2 : (x : Array Value) → r) (a b : Option Addr) (la ca lb cb : Nat) :
    Go.Extern.SlicesOverlaps.overlaps.match_4 (motive := fun _ => r) #[Value.slice a la ca, Value.slice b lb cb] f1 f2 = f1 a la ca b lb cb := rfl
theorem run_overlaps_free {P : Program} (w : World) (tS tR e : TypeId) (ht : P.underlying tS = some (.slice e)) (size : Nat) (hz : ∀ w, (Go.sizeOf e).run P w = .ok size w)
    (a b : Addr) (la ca lb cb : Nat) (hne : a.block ≠ b.block) (tA tB : TypeId) (cA cB : Array Value) (fA : Nat × Nat)
    (hA : w.heap[a.block]? = some (.cells cA tA fA)) (hB : w.heap[b.block]? = some (.cells cB tB (0, 0))) (hkA : cA.size ≠ 0) (hkB : cB.size ≠ 0) :
    (Extern.SlicesOverlaps.overlaps #[tS, tS] #[tR] #[.slice (some a) la ca, .slice (some b) lb cb]).run P w = .ok (.bool false) w := by
  have hnb : (a.block != b.block) = true := by simpa using hne
  have hnb' : (a.block == b.block) = false := by simpa using hne
  have hsa : w.shape? a.block = some (tA, cA.size) := by simp [World.shape?, hA]
  have hsb : w.shape? b.block = some (tB, cB.size) := by simp [World.shape?, hB]
  have hfb : w.frozen? b = false := by simp [World.frozen?, hB]
  have hfe : w.frozen? { block := b.block, off := cB.size } = false := by simp [World.frozen?, hB]
  delta Extern.SlicesOverlaps.overlaps
  rw [ovl_match]
  by_cases h0 : la = 0 ∨ lb = 0 ∨ size = 0
  · simp [run_underlying ht, hz, h0]
  · cases hcA : cA.size with
    | zero => exact absurd hcA hkA
    | succ kA =>
      cases hcB : cB.size with
      | zero => exact absurd hcB hkB
      | succ kB =>
        rw [hcA] at hsa
        rw [hcB] at hsb hfe
        simp [run_underlying ht, hz, h0, hnb, hnb', frozen, noView, viewAt, mayBeOne, stringish, shape, Sem.run, hsa, hsb, hfb, hfe]
def insFm (m i : Nat) (F G : Nat → Nat → PV) : Nat → Nat → PV := fun k j => if k < i then F k j else if k < i + m then G (k - i) j else F (k - m) j
theorem insL_repM {imm : Imm} {s n m i : Nat} {F G : Nat → Nat → PV} {xs vs : List Value} (hx : xs.length = n * s) (hv : vs.length = m * s) (hi : i ≤ n)
    (h1 : ∀ k j, k < n → j < s → ∃ x, xs[k * s + j]? = some x ∧ RepP imm (F k j) x) (h2 : ∀ k j, k < m → j < s → ∃ x, vs[k * s + j]? = some x ∧ RepP imm (G k j) x) :
    ∀ k j, k < n + m → j < s → ∃ x, (insL (i * s) xs vs)[k * s + j]? = some x ∧ RepP imm (insFm m i F G k j) x := by
  intro k j hk hj
  have hle : i * s ≤ xs.length := by rw [hx]; exact Nat.mul_le_mul_right _ hi
  by_cases h : k < i
  · have hm : k * s + j < i * s := by
      have : (k + 1) * s ≤ i * s := Nat.mul_le_mul_right _ h
      rw [Nat.add_mul, Nat.one_mul] at this
      omega
    rw [insL_lo hle hm, insFm, if_pos h]
    exact h1 k j (by omega) hj
  · by_cases h' : k < i + m
    · obtain ⟨q, rfl⟩ : ∃ q, k = i + q := ⟨k - i, by omega⟩
      have hq : q * s + j < vs.length := by
        have : (q + 1) * s ≤ m * s := Nat.mul_le_mul_right _ (by omega)
        rw [Nat.add_mul, Nat.one_mul] at this
        omega
      rw [show (i + q) * s + j = i * s + (q * s + j) by rw [Nat.add_mul]; omega, insL_mid hle hq, insFm, if_neg h, if_pos h', show i + q - i = q by omega]
      exact h2 q j (by omega) hj
    · obtain ⟨q, rfl⟩ : ∃ q, k = q + m := ⟨k - m, by omega⟩
      have hm : i * s ≤ q * s := Nat.mul_le_mul_right _ (by omega)
      rw [show (q + m) * s + j = vs.length + (q * s + j) by rw [hv, Nat.add_mul]; omega, insL_hi hle (by omega), insFm, if_neg h, if_neg h', Nat.add_sub_cancel]
      exact h1 q j (by omega) hj
theorem src_of_sl {imm : Imm} {m s : Nat} {clip : Bool} {G : Nat → Nat → PV} {u : Value} (hm : 0 < m) (hs : 0 < s) (h : RepP imm (.sl m s clip G) u) :
    ∃ vb vo vc vcs tv fz, ∃ vs : List Value, u = .slice (some ⟨vb, vo, none⟩) m vc ∧ m ≤ vc ∧ vc ≤ maxLen ∧ imm vb = some (.cells vcs tv fz) ∧ vs.length = m * s ∧
      (∀ q x, vs[q]? = some x → vcs[vo + q]? = some x) ∧ ∀ k j, k < m → j < s → ∃ x, vs[k * s + j]? = some x ∧ RepP imm (G k j) x := by
  obtain ⟨a, vc, rfl, h1, h2, _, h3⟩ := h
  obtain ⟨vb, vo, rfl, hc⟩ := h3 hm
  obtain ⟨vcs, tv, fz, hb⟩ : ∃ vcs tv fz, imm vb = some (.cells vcs tv fz) := by
    obtain ⟨x, hx, _⟩ := hc 0 0 hm hs
    unfold cellIn at hx
    split at hx
    · exact ⟨_, _, _, by assumption⟩
    · cases hx
  have hcell : ∀ k j, k < m → j < s → ∃ x, vcs[vo + (k * s + j)]? = some x ∧ RepP imm (G k j) x := fun k j hk hj => by
    obtain ⟨x, hx, hr⟩ := hc k j hk hj
    rw [cellIn, hb] at hx
    exact ⟨x, hx, hr⟩
  have hsz : vo + m * s ≤ vcs.size := by
    obtain ⟨x, hx, _⟩ := hcell (m - 1) (s - 1) (by omega) (by omega)
    have := (Array.getElem?_eq_some_iff.1 hx).1
    obtain ⟨p, rfl⟩ : ∃ p, m = p + 1 := ⟨m - 1, by omega⟩
    rw [Nat.add_mul, Nat.one_mul]
    rw [Nat.add_sub_cancel] at this
    omega
  have hlen : ((vcs.toList.drop vo).take (m * s)).length = m * s := by rw [List.length_take, List.length_drop, Array.length_toList]; omega
  have hget : ∀ q, q < m * s → ((vcs.toList.drop vo).take (m * s))[q]? = vcs[vo + q]? := fun q hq => by
    rw [List.getElem?_take, if_pos hq, List.getElem?_drop]; simp
  refine ⟨vb, vo, vc, vcs, tv, fz, _, rfl, h1, h2, hb, hlen, fun q x hx => ?_, fun k j hk hj => ?_⟩
  · rw [← hget q (by rw [← hlen]; exact (List.getElem?_eq_some_iff.1 hx).1)]
    exact hx
  · have hq : k * s + j < m * s := by
      have : (k + 1) * s ≤ m * s := Nat.mul_le_mul_right _ (by omega)
      rw [Nat.add_mul, Nat.one_mul] at this
      omega
    rw [hget _ hq]
    exact hcell k j hk hj
structure InsEndM (w w' : World) (T s : Nat) (own v : Value) (N : Nat) (xs : List Value) : Prop where
  row : w'.ownsRow 0 T s v N xs
  bl : Below 0 w w'
  out : ∀ g, g < w.heap.size → blkOf own ≠ some g → w'.heap[g]? = w.heap[g]?
  at_ : ∀ g, blkOf v = some g → w.heap.size ≤ g ∨ blkOf own = some g
structure InsCM (c : Ctx) (w w' : World) (T s a : Nat) (v : Value) (N : Nat) (ys : List Value) : Prop where
  row : w'.ownsRow 0 T s v N ys
  bl : Below 0 w w'
  out : ∀ g, g < w.heap.size → c.blk a ≠ some g → w'.heap[g]? = w.heap[g]?
  at_ : ∀ g, blkOf v = some g → w.heap.size ≤ g ∨ c.blk a = some g
theorem hfun_insCM {P : Program} {f : FuncId} {T s n m N i a r : Nat} {clip : Bool} {F G H : Nat → Nat → PV} (hn : N ≤ maxLen)
    (h : ∀ (w : World) (c : Ctx) (u2 : Value), Mem c (lk [(a, .arr true s T n F)]) w → RepP c.imm (.sl m s clip G) u2 →
      Calls P f #[c.own a, .int .i64 i, u2] w fun e w' => ∃ v ys, e = .returned v ∧ InsCM c w w' T s a v N ys ∧ ∀ k j, k < N → j < s → ∃ x, ys[k * s + j]? = some x ∧ RepP c.imm (H k j) x) :
    HFun P f [.one (.ref a n), .one (.p (.raw (.int .i64 i))), .one (.p (.sl m s clip G))] [(a, .arr true s T n F)] (.v (.one (.ref r N))) [(r, .arr true s T N H)] [] := by
  intro w c us hM hrep
  obtain ⟨u0, u1, u2, rfl, r0, r1, r2⟩ : ∃ u0 u1 u2, us = [u0, u1, u2] ∧ RepH c (lk [(a, .arr true s T n F)]) (.ref a n) u0 ∧ RepP c.imm (.raw (.int .i64 i)) u1 ∧ RepP c.imm (.sl m s clip G) u2 := by
    match us, hrep with
    | [u0, u1, u2], ⟨h0, h1, h2, _⟩ => exact ⟨u0, u1, u2, rfl, h0, h1, h2⟩
  have la : lk [(a, HObj.arr true s T n F)] a = some (.arr true s T n F) := by simp [lk]
  obtain rfl : u0 = c.own a := (r0.2.2 _ _ _ _ la rfl).2 rfl
  obtain ⟨rfl, _⟩ := r1
  obtain ⟨hs, _, oa⟩ := hM.objs a _ la
  refine (h w c u2 hM r2).mono ?_
  rintro e w' ⟨v, ys, rfl, hE, hrep⟩
  have hold := hE.out
  have hat := hE.at_
  have lr : ∀ id ob, lk [(r, HObj.arr true s T N H)] id = some ob → id = r ∧ ob = .arr true s T N H := by
    intro id ob hl
    simp only [lk] at hl
    by_cases hk : r = id
    · subst hk
      simp at hl
      exact ⟨rfl, hl.symm⟩
    · have : Nat.beq r id = false := by
        rw [Bool.eq_false_iff]; exact fun hb => hk (Nat.eq_of_beq_eq_true hb)
      rw [this] at hl
      cases hl
  have lrr : lk [(r, HObj.arr true s T N H)] r = some (.arr true s T N H) := by simp [lk]
  have him : ∀ q ob, c.imm q = some ob → q < w.heap.size := fun q ob hq => (Array.getElem?_eq_some_iff.1 (hM.imm q ob hq)).1
  have hform : v.oneCell' = true := by
    rcases hE.row.2 with ⟨hv, _⟩ | ⟨g, cap, cur, hv, _⟩ <;> (subst hv; rfl)
  refine ⟨v, { c with own := fun k => if k = r then v else c.own k, blk := fun k => if k = r then blkOf v else c.blk k }, rfl, ⟨hform, fun l hl => ?_, fun ob s1 e1 n1 ho hd => ?_⟩, ⟨fun id ob hl => ?_, fun id id' ob ob' q hl hl' _ _ => ?_, fun q ob hq => ?_, fun id ob q hl hq => ?_⟩, hE.bl, fun q hq hno => ⟨hold q hq (hno a _ la), rfl⟩, fun id ob q hl hq => ?_, fun id hid => absurd hid (by simp)⟩
  · cases (lr _ _ hl).2
  · obtain ⟨_, rfl⟩ := lr _ _ ho
    simp only [HObj.dim, Option.some.injEq, Prod.mk.injEq] at hd
    obtain ⟨rfl, rfl, rfl⟩ := hd
    exact ⟨Nat.le_refl _, fun _ => by simp⟩
  · obtain ⟨rfl, rfl⟩ := lr _ _ hl
    exact ⟨hs, hn, .inl ⟨by simp, _, by simpa using hE.row, hrep⟩⟩
  · rw [(lr _ _ hl).1, (lr _ _ hl').1]
  · have hq' : c.imm q = some ob := hq
    refine (hold q (him q ob hq') fun hb => ?_).trans (hM.imm q ob hq')
    rw [hM.sep a _ q la hb] at hq'
    cases hq'
  · obtain ⟨rfl, _⟩ := lr _ _ hl
    have hq' : blkOf v = some q := by simpa using hq
    show c.imm q = none
    rcases hat q hq' with h1 | h1
    · cases hc : c.imm q with
      | none => rfl
      | some ob => have := him q ob hc; omega
    · exact hM.sep a _ q la h1
  · obtain ⟨rfl, _⟩ := lr _ _ hl
    have hq' : blkOf v = some q := by simpa using hq
    rcases hat q hq' with h1 | h1
    · exact .inl h1
    · exact .inr ⟨a, _, la, h1⟩
theorem hfun_insM {P : Program} {f : FuncId} {T s n m i a r : Nat} {clip : Bool} {F G : Nat → Nat → PV} (hm : 0 < m) (hi : i < n) (hn : n + m ≤ maxLen)
    (h : ∀ (w : World) (own : Value) (xs vs : List Value) (vb vo vc : Nat) (vcs : Array Value) (tv : TypeId) (fz : Nat × Nat), w.ownsRow 0 T s own n xs → w.heap[vb]? = some (.cells vcs tv fz) → vs.length = m * s → (∀ q x, vs[q]? = some x → vcs[vo + q]? = some x) → m ≤ vc → vc ≤ maxLen →
      blkOf own ≠ some vb → (∀ x ∈ xs, x.oneCell' = true) → (∀ x ∈ vs, x.oneCell' = true) →
      Calls P f #[own, .int .i64 i, .slice (some ⟨vb, vo, none⟩) m vc] w fun e w' => ∃ v, e = .returned v ∧ InsEndM w w' T s own v (n + m) (insL (i * s) xs vs)) :
    HFun P f [.one (.ref a n), .one (.p (.raw (.int .i64 i))), .one (.p (.sl m s clip G))] [(a, .arr true s T n F)] (.v (.one (.ref r (n + m)))) [(r, .arr true s T (n + m) (insFm m i F G))] [] := by
  refine hfun_insCM hn fun w c u2 hM r2 => ?_
  have la : lk [(a, HObj.arr true s T n F)] a = some (.arr true s T n F) := by simp [lk]
  obtain ⟨hs, _, oa⟩ := hM.objs a _ la
  rcases oa with ⟨ba, xs, oxs, rxs⟩ | ⟨h1, _⟩
  case inr => rcases h1 with h1 | h1 <;> first | (exfalso; omega) | cases h1
  obtain ⟨vb, vo, vc, vcs, tv, fz, vs, rfl, hvc, hvm, himm, hvl, hcs, rvs⟩ := src_of_sl hm hs r2
  have hnb : blkOf (c.own a) ≠ some vb := by
    rw [← ba]
    intro he
    have := hM.sep a _ vb la he
    rw [himm] at this
    cases this
  refine (h w (c.own a) xs vs vb vo vc vcs tv fz oxs (hM.imm vb _ himm) hvl hcs hvc hvm hnb (ins_one hs oxs.1 rxs) (ins_one hs hvl rvs)).mono ?_
  rintro e w' ⟨v, rfl, hE⟩
  exact ⟨v, _, rfl, ⟨hE.row, hE.bl, fun q hq hb => hE.out q hq (by rw [← ba]; exact hb), fun q hq => by rw [ba]; exact hE.at_ q hq⟩, insL_repM oxs.1 hvl (by omega) rxs rvs⟩
theorem hfun_insEM {P : Program} {f : FuncId} {S T s bytes n m a r : Nat} {clip : Bool} {i0 : TypeInfo} {z : Value} {F G : Nat → Nat → PV} (ht : P.underlying S = some (.slice T)) (hi : P.info? T = some i0) (hz : i0.zero = some z) (hsz : i0.size = s) (hby : i0.bytes = bytes) (hzs : z.cells.size = s)
    (hm : 0 < m) (hbig : (n + m) * bytes ≤ 140737488355328) (hn : n + m ≤ maxLen)
    (h : ∀ (w w1 : World) (base : Option Addr) (c : Nat) (vb vo vc : Nat) (v' : Value), n ≤ c → c ≤ maxLen → (base = none → n = 0 ∧ c = 0) → ((Builtin.append_ #[S, S] S #[.slice base n c, .slice (some ⟨vb, vo, none⟩) m vc]).run P w = .ok v' w1) →
      Calls P f #[.slice base n c, .int .i64 n, .slice (some ⟨vb, vo, none⟩) m vc] w fun e w' => e = .returned v' ∧ w' = w1) :
    HFun P f [.one (.ref a n), .one (.p (.raw (.int .i64 n))), .one (.p (.sl m s clip G))] [(a, .arr true s T n F)] (.v (.one (.ref r (n + m)))) [(r, .arr true s T (n + m) (insFm m n F G))] [] := by
  refine hfun_insCM hn fun w c u2 hM r2 => ?_
  have la : lk [(a, HObj.arr true s T n F)] a = some (.arr true s T n F) := by simp [lk]
  obtain ⟨hs, _, oa⟩ := hM.objs a _ la
  obtain ⟨vb, vo, vc, vcs, tv, fz, vs, rfl, hvc, hvm, himm, hvl, hcs, rvs⟩ := src_of_sl hm hs r2
  have h1v := ins_one hs hvl rvs
  have hg2 := hM.imm vb _ himm
  have hnews : ∀ j u, vs[j]? = some u → w.cell? ((⟨vb, vo, none⟩ : Addr).add j) = some u := fun j u hj => by
    rw [Addr.add_lit, World.cell?, hg2]
    exact hcs j u hj
  rcases oa with ⟨ba, xs, oxs, rxs⟩ | ⟨h1, bn, hsl⟩
  · obtain ⟨v', w1, hrun, hown', hgrow, _, hat⟩ := run_append_own_at (P := P) w 0 S S T i0 z s bytes ht hi hz hsz hby hzs hs (c.own a) n xs oxs ⟨vb, vo, none⟩ m vc vs hvl hnews h1v hn hbig (Nat.zero_le _)
    have hob : ∀ v : Value, (∃ ad k cap, v = .slice ad k cap) → v.ownBlock = blkOf v := by
      rintro v ⟨ad, k, cap, rfl⟩
      cases ad <;> rfl
    have hform : ∃ base cap, c.own a = .slice base n cap ∧ n ≤ cap ∧ cap ≤ maxLen ∧ (base = none → n = 0 ∧ cap = 0) := by
      rcases oxs.2 with ⟨hv, h0⟩ | ⟨g, cap, cur, hv, _, _, h1, h2, _⟩
      · subst h0; exact ⟨none, 0, hv, Nat.le_refl _, Nat.zero_le _, fun _ => ⟨rfl, rfl⟩⟩
      · exact ⟨_, cap, hv, h1, h2, fun h => by cases h⟩
    obtain ⟨base, cap, hv, h1, h2, h3⟩ := hform
    have e0 : (c.own a).ownBlock = blkOf (c.own a) := hob _ ⟨_, _, _, hv⟩
    have e1 : v'.ownBlock = blkOf v' := hob _ (by
      rcases hown'.2 with ⟨hv, _⟩ | ⟨g, cap, cur, hv, _⟩
      · exact ⟨_, _, _, hv⟩
      · exact ⟨_, _, _, hv⟩)
    rw [e0, ← ba] at hgrow
    rw [e1, e0, ← ba] at hat
    have hins : insL (n * s) xs vs = xs ++ vs := by simp [insL, ← oxs.1]
    have hrep := insL_repM (imm := c.imm) oxs.1 hvl (Nat.le_refl n) rxs rvs
    rw [hins] at hrep
    rw [hv] at hrun ⊢
    refine (h w w1 base cap vb vo vc v' h1 h2 h3 hrun).mono ?_
    rintro e w' ⟨rfl, rfl⟩
    refine ⟨_, _, rfl, ⟨hown', ⟨hgrow.os, hgrow.tape, hgrow.output, hgrow.size, fun k hk => absurd hk (Nat.not_lt_zero k)⟩, fun q hq hb => hgrow.block q hq (fun h => hb h.symm), fun q hq => ?_⟩, hrep⟩
    rcases hat with h4 | h4
    · exact .inr (by rw [← h4]; exact hq)
    · rw [hq] at h4
      simp only [Option.some.injEq] at h4
      exact .inl (by omega)
  · obtain rfl : n = 0 := by rcases h1 with h1 | h1 <;> first | exact h1 | cases h1
    obtain ⟨ad, cap, hv, _, _, hcl, _⟩ := hsl
    obtain rfl : cap = 0 := hcl rfl
    have hrep := insL_repM (imm := c.imm) (xs := []) (F := F) (n := 0) (s := s) (by simp) hvl (Nat.le_refl 0) (fun k j hk => by omega) rvs
    have hins : insL (0 * s) [] vs = vs := by simp [insL]
    rw [hins] at hrep
    rw [hv]
    cases ad with
    | none =>
      obtain ⟨v', w1, hrun, hown', hgrow, _, hat⟩ := run_append_own_at (P := P) w 0 S S T i0 z s bytes ht hi hz hsz hby hzs hs (.slice none 0 0) 0 [] (World.ownsRow_nil w _ _ _) ⟨vb, vo, none⟩ m vc vs hvl hnews h1v hn hbig (Nat.zero_le _)
      have e1 : v'.ownBlock = blkOf v' := by
        rcases hown'.2 with ⟨hv, _⟩ | ⟨g, cap, cur, hv, _⟩ <;> (subst hv; rfl)
      refine (h w w1 none 0 vb vo vc v' (Nat.le_refl _) (Nat.zero_le _) (fun _ => ⟨rfl, rfl⟩) hrun).mono ?_
      rintro e w' ⟨rfl, rfl⟩
      refine ⟨_, _, rfl, ⟨hown', ⟨hgrow.os, hgrow.tape, hgrow.output, hgrow.size, fun k hk => absurd hk (Nat.not_lt_zero k)⟩, fun q hq hb => hgrow.block q hq (fun h => by cases h), fun q hq => ?_⟩, hrep⟩
      rw [e1, hq] at hat
      rcases hat with h4 | h4
      · cases h4
      · simp only [Option.some.injEq] at h4
        exact .inl (by omega)
    | some ba =>
      have hr := run_append_grow (P := P) w S S T i0 z ht hi hz ba 0 0 [] (by simp) (fun k u hk => by simp at hk) ⟨vb, vo, none⟩ m vc vs (by rw [hsz]; exact hvl) hnews (by omega) (by unfold maxLen at hn; omega) (growslice_fits (by omega) (by rw [hby]; exact hbig))
      have hge := grownCap_ge w (0 + m) 0 T
      have hcm : grownCap w (0 + m) 0 T ≤ maxLen := grownCap_le_maxLen w (0 + m) 0 T hn
      refine (h w _ (some ba) 0 vb vo vc _ (Nat.le_refl _) (Nat.zero_le _) (fun h => by cases h) hr).mono ?_
      rintro e w' ⟨rfl, rfl⟩
      refine ⟨_, vs, rfl, ⟨⟨by rw [hvl, Nat.zero_add], .inr ⟨w.heap.size, _, _, rfl, Nat.zero_le _, heap_alloc_new w.drew _, hge, hcm, ?_, ?_⟩⟩, ⟨rfl, rfl, rfl, ?_, fun k hk => absurd hk (Nat.not_lt_zero k)⟩, fun q hq hb => ha_old w.drew _ hq, fun q hq => ?_⟩, hrep⟩
      · simp only [Array.size_append, List.size_toArray, size_zeroCells, hzs, hvl, List.length_nil]
        rw [Nat.zero_add, ← Nat.add_mul]
        congr 1
        omega
      · simp only [Array.toList_append, List.nil_append, Nat.zero_add]
        rw [← hvl]
        exact List.take_left
      · show _ ≤ (w.heap.push _).size
        rw [Array.size_push]; omega
      · have : w.heap.size = q := by simpa [blkOf] using hq
        exact .inl (by omega)
theorem hfun_ins0 {P : Program} {f : FuncId} {T s n i a r : Nat} {clip : Bool} {F G : Nat → Nat → PV}
    (h : ∀ (w : World) (base : Option Addr) (c : Nat) (a2 : Option Addr) (vc : Nat), n ≤ c → c ≤ maxLen → (base = none → n = 0 ∧ c = 0) →
      Calls P f #[.slice base n c, .int .i64 i, .slice a2 0 vc] w fun e w' => e = .returned (.slice base n c) ∧ w' = w)
    (hnil : ∀ (w : World) (base : Option Addr) (a2 : Option Addr) (vc : Nat), n = 0 → Calls P f #[.slice base 0 0, .int .i64 i, .slice a2 0 vc] w fun e w' => e = .returned (.slice base 0 0) ∧ w' = w) :
    HFun P f [.one (.ref a n), .one (.p (.raw (.int .i64 i))), .one (.p (.sl 0 s clip G))] [(a, .arr true s T n F)] (.v (.one (.ref r n))) [(r, .arr true s T n F)] [] := by
  intro w c us hM hrep
  obtain ⟨u0, u1, u2, rfl, r0, r1, r2⟩ : ∃ u0 u1 u2, us = [u0, u1, u2] ∧ RepH c (lk [(a, .arr true s T n F)]) (.ref a n) u0 ∧ RepP c.imm (.raw (.int .i64 i)) u1 ∧ RepP c.imm (.sl 0 s clip G) u2 := by
    match us, hrep with
    | [u0, u1, u2], ⟨h0, h1, h2, _⟩ => exact ⟨u0, u1, u2, rfl, h0, h1, h2⟩
  have la : lk [(a, HObj.arr true s T n F)] a = some (.arr true s T n F) := by simp [lk]
  obtain rfl : u0 = c.own a := (r0.2.2 _ _ _ _ la rfl).2 rfl
  obtain ⟨rfl, _⟩ := r1
  obtain ⟨a2, vc, rfl, _, _, _, _⟩ := r2
  obtain ⟨hs, hn, oa⟩ := hM.objs a _ la
  have hcall : Calls P f #[c.own a, .int .i64 i, .slice a2 0 vc] w fun e w' => e = .returned (c.own a) ∧ w' = w := by
    rcases oa with ⟨ba, xs, oxs, rxs⟩ | ⟨h1, bn, hsl⟩
    · rcases oxs.2 with ⟨hv, h0⟩ | ⟨g, cap, cur, hv, _, _, h1, h2, _⟩
      · subst h0; rw [hv]; exact h w none 0 a2 vc (Nat.le_refl _) (Nat.zero_le _) fun _ => ⟨rfl, rfl⟩
      · rw [hv]; exact h w _ cap a2 vc h1 h2 fun e => by cases e
    · obtain rfl : n = 0 := by rcases h1 with h1 | h1 <;> first | exact h1 | cases h1
      obtain ⟨ad, cap, hv, _, _, hcl, _⟩ := hsl
      obtain rfl : cap = 0 := hcl rfl
      rw [hv]
      exact hnil w ad a2 vc rfl
  have hform : (c.own a).oneCell' = true := by
    rcases oa with ⟨ba, xs, oxs, rxs⟩ | ⟨h1, bn, hsl⟩
    · rcases oxs.2 with ⟨hv, _⟩ | ⟨g, cap, cur, hv, _⟩ <;> (rw [hv]; rfl)
    · obtain ⟨ad, cap, hv, _⟩ := hsl
      rw [hv]; rfl
  refine hcall.mono ?_
  rintro e w' ⟨rfl, rfl⟩
  have lr : ∀ id ob, lk [(r, HObj.arr true s T n F)] id = some ob → id = r ∧ ob = .arr true s T n F := fun id ob hl => lk_one hl
  refine ⟨c.own a, { c with own := fun k => if k = r then c.own a else c.own k, blk := fun k => if k = r then c.blk a else c.blk k }, rfl, ⟨hform, fun l hl => ?_, fun ob s1 e1 n1 ho hd => ?_⟩, ⟨fun id ob hl => ?_, fun id id' ob ob' q hl hl' _ _ => ?_, fun q ob hq => ?_, fun id ob q hl hq => ?_⟩, Below.refl _ _, fun q hq hno => ⟨rfl, rfl⟩, fun id ob q hl hq => ?_, fun id hid => absurd hid (by simp)⟩
  · cases (lr _ _ hl).2
  · obtain ⟨_, rfl⟩ := lr _ _ ho
    simp only [HObj.dim, Option.some.injEq, Prod.mk.injEq] at hd
    obtain ⟨rfl, rfl, rfl⟩ := hd
    exact ⟨Nat.le_refl _, fun _ => by simp⟩
  · obtain ⟨rfl, rfl⟩ := lr _ _ hl
    exact ⟨hs, hn, by simpa using oa⟩
  · rw [(lr _ _ hl).1, (lr _ _ hl').1]
  · exact hM.imm q ob hq
  · obtain ⟨rfl, _⟩ := lr _ _ hl
    have hq' : c.blk a = some q := by simpa using hq
    exact hM.sep a _ q la hq'
  · obtain ⟨rfl, _⟩ := lr _ _ hl
    have hq' : c.blk a = some q := by simpa using hq
    exact .inr ⟨a, _, la, hq'⟩
theorem insFm_0 {i : Nat} {F G : Nat → Nat → PV} : insFm 0 i F G = F := by
  funext k j
  unfold insFm
  split
  · rfl
  · rw [if_neg (by omega), Nat.sub_zero]
end Go.Hx
end
section
namespace Go.Hx
open Go.Proofs Go.Lib Go.RowKit
set_option maxHeartbeats 4000000 in
set_option maxRecDepth 100000 in
theorem ins13_shiftM (b n c i m vb vo vc : Nat) (cur vcs : Array Value) (vs : List Value) (tv : TypeId) (fz : Nat × Nat) (w : World) (hm : 0 < m) (hi : i < n) (hroom : n + m ≤ c) (hc : c ≤ maxLen) (hvb : vb ≠ b)
    (hb : w.heap[b]? = some (.cells cur 49 (0, 0))) (hcur : cur.size = c * 11) (hv : w.heap[vb]? = some (.cells vcs tv fz)) (hvl : vs.length = m * 11) (hvcs : ∀ q x, vs[q]? = some x → vcs[vo + q]? = some x) (hvc : m ≤ vc) (hvM : vc ≤ maxLen)
    (h1c : ∀ v ∈ (cur.toList.take (n * 11)), v.oneCell' = true) (h1v : ∀ v ∈ vs, v.oneCell' = true) :
    Calls Tryz.prog 13 #[.slice (some ⟨b, 0, none⟩) n c, .int .i64 i, .slice (some ⟨vb, vo, none⟩) m vc] w fun e w' =>
      e = .returned (.slice (some ⟨b, 0, none⟩) (n + m) c) ∧ ∃ A1 : Array Value, w' = w.drew.setRow b A1 ∧ A1.size = cur.size ∧ A1.toList.take ((n + m) * 11) = insL (i * 11) (cur.toList.take (n * 11)) vs := by
  have hcM : c ≤ 9223372036854775807 := by unfold maxLen at hc; omega
  have hsz : (Tryz.prog.info? 49).map (·.size) = some 11 := by kernel_rfl
  have hz2 : ¬ ((i : Int) = (n : Int)) := by omega
  have hm0 : ¬ ((m : Int) = 0) := by omega
  have hvz : vcs.size ≠ 0 := by
    have h0 : 0 < vs.length := by rw [hvl]; omega
    have := (Array.getElem?_eq_some_iff.1 (hvcs 0 _ (List.getElem?_eq_getElem h0))).1
    omega
  have hov : ∀ o lb cb, (callFunc 43 #[.slice (some ⟨vb, vo, none⟩) m vc, .slice (some ⟨b, o, none⟩) lb cb]).run Tryz.prog w = .ok (.value (.bool false)) w := fun o lb cb => by
    rw [run_callFunc_extern Tryz.func43 (by kernel_rfl) (by kernel_rfl) (by kernel_rfl) (e := Extern.SlicesOverlaps.overlaps #[23, 23] #[4]) (by kernel_rfl),
      run_overlaps_free w 23 4 49 Tryz.underlying23 11 Tryz.sizeOf49 ⟨vb, vo, none⟩ ⟨b, o, none⟩ m vc lb cb hvb tv 49 vcs cur fz hv hb hvz (by rw [hcur]; omega)]
    rfl
  have mixed := Tryzmixed
  have hw1 : IntKind.i64.wrap ((i : Int) + (m : Int)) = (i : Int) + (m : Int) := by rw [IntKind.wrap_i64]; omega
  have hw2 : IntKind.i64.wrap ((n : Int) + (m : Int)) = (n : Int) + (m : Int) := by rw [IntKind.wrap_i64]; omega
  have hb1 : (0 : Int) ≤ (i : Int) + (m : Int) := by omega
  have hin : i ≤ n := by omega
  have htn : ((i : Int) + (m : Int)).toNat = i + m := by omega
  have hb2 : ¬ (c = i + m) := by omega
  have hb3 : (i : Int) ≤ (n : Int) + (m : Int) := by omega
  have hb4 : ¬ (c = i) := by omega
  have hcl : cur.toList.length = c * 11 := by simpa using hcur
  obtain ⟨seg, hseg⟩ : ∃ seg, seg = (cur.toList.take (n * 11)).drop (i * 11) := ⟨_, rfl⟩
  have hsl : seg.length = (n - i) * 11 := by rw [hseg, List.length_drop, List.length_take, hcl]; omega
  obtain ⟨A0, hA0⟩ : ∃ A0 : Array Value, A0 = (cur.toList.take ((i + m) * 11) ++ seg ++ cur.toList.drop ((i + m) * 11 + seg.length)).toArray := ⟨_, rfl⟩
  have hA0s : A0.size = cur.size := by rw [hA0]; simp [hsl, hcur]; omega
  have hcp1 : ∀ ty dc sc, (Builtin.copy_ #[23, 23] ty #[.slice (some ⟨b, (i + m) * 11, none⟩) (n + m - (i + m)) dc, .slice (some ⟨b, i * 11, none⟩) (n + m - i) sc]).run Tryz.prog w.drew = .ok (goInt ((n - i : Nat) : Int)) (w.drew.setRow b A0) := fun ty dc sc => by
    rw [show n + m - (i + m) = n - i by omega]
    have h := run_copy_rows (P := Tryz.prog) w.drew 23 23 ty 49 b ((i + m) * 11) (n - i) dc ⟨b, i * 11, none⟩ (n + m - i) sc 11 cur 49 seg Tryz.underlying23 hsz hb (by rw [hsl]; simp only [Nat.min_def]; split <;> omega)
      (fun j v hj => by
        rw [Addr.add_lit]
        rw [hseg, List.getElem?_drop, List.getElem?_take] at hj
        split at hj
        · show (w.cell? _) = _
          rw [World.cell?, hb]
          simpa using hj
        · cases hj)
      (by rw [hsl, hcur]; omega) (fun v hv => h1c v (by rw [hseg] at hv; exact List.mem_of_mem_drop hv))
    rw [show Nat.min (n + m - i) (n - i) = n - i by simp only [Nat.min_def]; split <;> omega, ← hA0] at h
    exact h
  obtain ⟨A1, hA1d⟩ : ∃ A1 : Array Value, A1 = (A0.toList.take (i * 11) ++ vs ++ A0.toList.drop (i * 11 + vs.length)).toArray := ⟨_, rfl⟩
  have hA1 : A1.size = cur.size := by rw [hA1d]; simp [hvl, hA0s, hcur]; omega
  have hA2 : A1.toList.take ((n + m) * 11) = insL (i * 11) (cur.toList.take (n * 11)) vs := by
    rw [hA1d, hA0]
    show (List.take (i * 11) _ ++ vs ++ List.drop (i * 11 + vs.length) _).take ((n + m) * 11) = _
    rw [show (n + m) * 11 = n * 11 + vs.length by rw [hvl]; omega]
    exact ins_list (r := (i + m) * 11) (Nat.mul_le_mul_right _ (by omega)) (by omega) (by omega) (by rw [← hseg])
  have hcp2 : ∀ ty dc, (Builtin.copy_ #[23, 23] ty #[.slice (some ⟨b, i * 11, none⟩) (n + m - i) dc, .slice (some ⟨vb, vo, none⟩) m vc]).run Tryz.prog (w.drew.setRow b A0) = .ok (goInt (m : Int)) (w.drew.setRow b A1) := fun ty dc => by
    have h := run_copy_rows (P := Tryz.prog) (w.drew.setRow b A0) 23 23 ty 49 b (i * 11) (n + m - i) dc ⟨vb, vo, none⟩ m vc 11 A0 49 vs Tryz.underlying23 hsz (setRow_heap _ _ _ _ _ _ hb) (by rw [hvl]; simp only [Nat.min_def]; split <;> omega)
      (fun j v hj => by
        rw [Addr.add_lit, World.cell?, setRow_other _ _ _ _ hvb]
        show (match w.heap[vb]? with | some (.cells c _ _) => _ | _ => _) = _
        rw [hv]
        exact hvcs j v hj)
      (by rw [hvl, hA0s, hcur]; omega) h1v
    rw [show Nat.min m (n + m - i) = m by simp only [Nat.min_def]; split <;> omega, ← hA1d, setRow_setRow] at h
    exact h
  clear hA0 hseg hA1d
  go_enter Tryz.func13, Tryz.ntmps13
  go_wp2_with (simp only [hov])
  go_region_law_o (refine step_copy_runI rfl _ _ 23 23 rfl _ _ (by simp [Act.eval, Act.put]) (by simp [Act.eval, Act.put]) (hcp1 _ _ _) ?_)
  go_wp2_with (at_builtin; refine wpList_copy_runI _ rfl _ _ 23 23 rfl _ _ rfl rfl (hcp2 _ _ _) ?_)
  go_ret
  exact ⟨rfl, _, rfl, hA1, hA2⟩
set_option maxHeartbeats 4000000 in
set_option maxRecDepth 100000 in
theorem ins13_growM (b n c i m vb vo vc : Nat) (cur vcs : Array Value) (vs : List Value) (tv : TypeId) (fz : Nat × Nat) (w : World) (hm : 0 < m) (hi : i < n) (hnc : n ≤ c) (hroom : c < n + m) (hbig : (n + m) * 160 ≤ 140737488355328)
    (hb : w.heap[b]? = some (.cells cur 49 (0, 0))) (hcur : cur.size = c * 11) (hv : w.heap[vb]? = some (.cells vcs tv fz)) (hvl : vs.length = m * 11) (hvcs : ∀ q x, vs[q]? = some x → vcs[vo + q]? = some x) (hvc : m ≤ vc) (hvM : vc ≤ maxLen)
    (h1c : ∀ v ∈ (cur.toList.take (n * 11)), v.oneCell' = true) (h1v : ∀ v ∈ vs, v.oneCell' = true) :
    Calls Tryz.prog 13 #[.slice (some ⟨b, 0, none⟩) n c, .int .i64 i, .slice (some ⟨vb, vo, none⟩) m vc] w fun e w' =>
      ∃ G : Nat, ∃ ROW A0 A1 : Array Value, e = .returned (.slice (some ⟨w.heap.size, 0, none⟩) (n + m) G) ∧ n + m ≤ G ∧ G ≤ maxLen ∧
        w' = (((w.alloc (.cells ROW 49)).drew.setRow w.heap.size A0).drew).setRow w.heap.size A1 ∧ A1.size = G * 11 ∧ A1.toList.take ((n + m) * 11) = insL (i * 11) (cur.toList.take (n * 11)) vs := by
  have hc : n + m ≤ maxLen := by unfold maxLen; omega
  have hcM : c ≤ 9223372036854775807 := by unfold maxLen at hc; omega
  obtain ⟨i0, z, hi0, hz0, hzs, hzb, hzc⟩ : ∃ i0 z, Tryz.prog.info? 49 = some i0 ∧ i0.zero = some z ∧ i0.size = 11 ∧ i0.bytes = 160 ∧ z.cells.size = 11 := by
    have h : (Tryz.prog.info? 49).map (fun i => (i.zero.map (fun z => z.cells.size), i.size, i.bytes)) = some (some 11, 11, 160) := by kernel_rfl
    cases hq : Tryz.prog.info? 49 with
    | none => rw [hq] at h; cases h
    | some i0 =>
      rw [hq] at h
      cases hz : i0.zero with
      | none => simp [hz] at h
      | some z => simp [hz] at h; exact ⟨i0, z, rfl, hz, h.2.1, h.2.2, h.1⟩
  have hsz : (Tryz.prog.info? 49).map (·.size) = some 11 := by rw [hi0]; simp [hzs]
  have hz2 : ¬ ((i : Int) = (n : Int)) := by omega
  have hm0 : ¬ ((m : Int) = 0) := by omega
  have hz3 : (c : Int) < (n : Int) + (m : Int) := by omega
  have hbw : b < w.heap.size := (Array.getElem?_eq_some_iff.1 hb).1
  have hvw : vb < w.heap.size := (Array.getElem?_eq_some_iff.1 hv).1
  have hkk : (n : Int) + (m : Int) - (i : Int) = ((n + m - i : Nat) : Int) := by omega
  have hik : i + (n + m - i) = n + m := by omega
  have hcl : cur.toList.length = c * 11 := by simpa using hcur
  have hold : (Builtin.firstCells i0.size i (.slice (some ⟨b, 0, none⟩) i c)).run Tryz.prog w.drew = .ok (cur.toList.take (i * 11)).toArray w.drew := by
    rw [hzs]
    exact run_firstCells_some w.drew 11 i ⟨b, 0, none⟩ i c (cur.toList.take (i * 11)) (by rw [List.length_take]; omega) (fun j v hj => by
      rw [Addr.add_lit]
      rw [List.getElem?_take] at hj
      split at hj
      · show (w.cell? _) = _
        rw [World.cell?, hb]
        simpa using hj
      · cases hj)
  obtain ⟨G, hG⟩ : ∃ G, G = grownCap w (n + m) c 49 := ⟨_, rfl⟩
  obtain ⟨ROW, hROW⟩ : ∃ ROW : Array Value, ROW = (cur.toList.take (i * 11)).toArray ++ Builtin.zeroCells z.cells (n + m - i) ++ Builtin.zeroCells z.cells (G - (n + m)) := ⟨_, rfl⟩
  have hrz : ∀ ty, (Builtin.append_ #[23, 3] ty #[.slice (some ⟨b, 0, none⟩) i c, .int .i64 ((n : Int) + (m : Int) - (i : Int))]).run Tryz.prog w =
      .ok (.slice (some ⟨w.heap.size, 0, none⟩) (n + m) G) (w.drew.alloc (.cells ROW 49)) := fun ty => by
    have h := Lib.run_append_grow_zeros w 23 3 ty 49 i0 z .i64 .i64 Tryz.underlying23 Tryz.underlying3 hi0 hz0 (some ⟨b, 0, none⟩) i c (cur.toList.take (i * 11)) hold (n + m - i) (by omega) (by omega) (by omega) (by unfold maxLen at hc; omega) (by rw [hzb]; omega) (by rw [hzb, hik]; exact growslice_fits hroom hbig)
    rw [hik, ← hG, ← hROW] at h
    rw [hkk]
    exact h
  have hGn : n + m ≤ G := by rw [hG]; exact grownCap_ge w _ _ _
  have hGm : G ≤ maxLen := by rw [hG]; exact grownCap_le_maxLen w (n + m) c 49 hc
  have hG63 : G ≤ 9223372036854775807 := by unfold maxLen at hGm; omega
  have hRs : ROW.size = G * 11 := by
    rw [hROW]
    simp only [Array.size_append, List.size_toArray, List.length_take, hcl, size_zeroCells, hzc]
    omega
  obtain ⟨seg, hseg⟩ : ∃ seg, seg = (cur.toList.take (n * 11)).drop (i * 11) := ⟨_, rfl⟩
  have hsl : seg.length = (n - i) * 11 := by rw [hseg, List.length_drop, List.length_take, hcl]; omega
  obtain ⟨A0, hA0⟩ : ∃ A0 : Array Value, A0 = (ROW.toList.take (i * 11) ++ vs ++ ROW.toList.drop (i * 11 + vs.length)).toArray := ⟨_, rfl⟩
  have hA0s : A0.size = G * 11 := by rw [hA0]; simp [hvl, hRs]; omega
  obtain ⟨A1, hA1d⟩ : ∃ A1 : Array Value, A1 = (A0.toList.take ((i + m) * 11) ++ seg ++ A0.toList.drop ((i + m) * 11 + seg.length)).toArray := ⟨_, rfl⟩
  have hA1 : A1.size = G * 11 := by rw [hA1d]; simp [hsl, hA0s]; omega
  have hA2 : A1.toList.take ((n + m) * 11) = insL (i * 11) (cur.toList.take (n * 11)) vs := by
    have hR : ROW.toList.take (i * 11) = cur.toList.take (i * 11) := by
      rw [hROW]
      simp only [Array.toList_append, List.append_assoc]
      rw [List.take_append_of_le_length (by simp [hcl]; omega), List.take_take]
      congr 1; omega
    have hL := ins_grow (l := cur.toList) (vs := vs) (p := i * 11) (q := n * 11) (r := (i + m) * 11) (R := ROW.toList) (A := A0.toList) (Nat.mul_le_mul_right _ (by omega)) (by omega) (by omega) (by simp [hRs]; omega) hR (by rw [hA0])
    rw [hA1d]
    show (List.take ((i + m) * 11) _ ++ seg ++ List.drop _ _).take ((n + m) * 11) = _
    rw [show (n + m) * 11 = n * 11 + vs.length by rw [hvl]; omega, hseg]
    exact hL
  have hcpA : ∀ (W : World), W.heap[w.heap.size]? = some (.cells ROW 49 (0, 0)) → W.heap[vb]? = some (.cells vcs tv fz) → ∀ ty dc, (Builtin.copy_ #[23, 23] ty #[.slice (some ⟨w.heap.size, i * 11, none⟩) (n + m - i) dc, .slice (some ⟨vb, vo, none⟩) m vc]).run Tryz.prog W = .ok (goInt (m : Int)) (W.setRow w.heap.size A0) := fun W hWc hWv ty dc => by
    have h := run_copy_rows (P := Tryz.prog) W 23 23 ty 49 w.heap.size (i * 11) (n + m - i) dc ⟨vb, vo, none⟩ m vc 11 ROW 49 vs Tryz.underlying23 hsz hWc (by rw [hvl]; simp only [Nat.min_def]; split <;> omega)
      (fun j v hj => by
        rw [Addr.add_lit, World.cell?, hWv]
        exact hvcs j v hj)
      (by rw [hvl, hRs]; omega) h1v
    rw [show Nat.min m (n + m - i) = m by simp only [Nat.min_def]; split <;> omega, ← hA0] at h
    exact h
  have hcpB : ∀ (W : World), W.heap[w.heap.size]? = some (.cells A0 49 (0, 0)) → W.heap[b]? = some (.cells cur 49 (0, 0)) → ∀ ty dc sc, (Builtin.copy_ #[23, 23] ty #[.slice (some ⟨w.heap.size, (i + m) * 11, none⟩) (n + m - (i + m)) dc, .slice (some ⟨b, i * 11, none⟩) (n - i) sc]).run Tryz.prog W = .ok (goInt ((n - i : Nat) : Int)) (W.setRow w.heap.size A1) := fun W hWc hWb ty dc sc => by
    rw [show n + m - (i + m) = n - i by omega]
    have h := run_copy_rows (P := Tryz.prog) W 23 23 ty 49 w.heap.size ((i + m) * 11) (n - i) dc ⟨b, i * 11, none⟩ (n - i) sc 11 A0 49 seg Tryz.underlying23 hsz hWc (by rw [hsl]; simp only [Nat.min_def]; split <;> omega)
      (fun j v hj => by
        rw [Addr.add_lit]
        rw [hseg, List.getElem?_drop, List.getElem?_take] at hj
        split at hj
        · rw [World.cell?, hWb]
          simpa using hj
        · cases hj)
      (by rw [hsl, hA0s]; omega) (fun v hv => h1c v (by rw [hseg] at hv; exact List.mem_of_mem_drop hv))
    rw [show Nat.min (n - i) (n - i) = n - i by simp only [Nat.min_def]; split <;> omega, ← hA1d] at h
    exact h
  have mixed := Tryzmixed
  have hGi : ¬ (G = i) := by omega
  have hGim : ¬ (G = i + m) := by omega
  have hci : ¬ (c = i) := by omega
  have hw1 : IntKind.i64.wrap ((i : Int) + (m : Int)) = (i : Int) + (m : Int) := by rw [IntKind.wrap_i64]; omega
  have hw2 : IntKind.i64.wrap ((n : Int) + (m : Int)) = (n : Int) + (m : Int) := by rw [IntKind.wrap_i64]; omega
  have hw3 : IntKind.i64.wrap ((n : Int) + (m : Int) - (i : Int)) = (n : Int) + (m : Int) - (i : Int) := by rw [IntKind.wrap_i64]; omega
  have hb1 : (0 : Int) ≤ (i : Int) + (m : Int) := by omega
  have hin : i ≤ n := by omega
  have htn : ((i : Int) + (m : Int)).toNat = i + m := by omega
  have hb3 : (i : Int) ≤ (n : Int) := by omega
  have hE1 : ((w.alloc (.cells ROW 49)).drew).heap[w.heap.size]? = some (.cells ROW 49 (0, 0)) := heap_alloc_new w _
  have hE2 : ((w.alloc (.cells ROW 49)).drew).heap[vb]? = some (.cells vcs tv fz) := (ha_old w _ hvw).trans hv
  have hE3 : (((w.alloc (.cells ROW 49)).drew.setRow w.heap.size A0).drew).heap[w.heap.size]? = some (.cells A0 49 (0, 0)) := setRow_heap _ _ _ _ _ _ (heap_alloc_new w _)
  have hE4 : (((w.alloc (.cells ROW 49)).drew.setRow w.heap.size A0).drew).heap[b]? = some (.cells cur 49 (0, 0)) := (setRow_other (w.alloc (.cells ROW 49)).drew _ _ _ (by omega)).trans ((ha_old w _ hbw).trans hb)
  have hB := hcpB _ hE3 hE4
  have hA := hcpA _ hE1 hE2
  clear hkk hik hold hROW hG hRs hA0 hseg hA1d hA0s hsl hvl hcpA hcpB hE1 hE2 hE3 hE4
  go_enter Tryz.func13, Tryz.ntmps13
  go_wp2_with (first
    | (at_builtin; refine Lib.wpList_append_run _ rfl _ _ _ _ rfl _ _ rfl rfl _ _ (hrz _) ?_)
    | (at_builtin; refine wpList_copy_runI _ rfl _ _ 23 23 rfl _ _ rfl rfl (hA _ _) ?_))
  go_region_law_o (refine step_copy_runI rfl _ _ 23 23 rfl _ _ (by simp [Act.eval, Act.put]) (by simp [Act.eval, Act.put]) (hB _ _ _) ?_)
  go_wp2
  go_ret
  exact ⟨G, ROW, A0, A1, rfl, hGn, hGm, rfl, hA1, hA2⟩
theorem ins13M (n i m : Nat) (hm : 0 < m) (hi : i < n) (hbig : (n + m) * 160 ≤ 140737488355328) (w : World) (own : Value) (xs vs : List Value) (vb vo vc : Nat) (vcs : Array Value) (tv : TypeId) (fz : Nat × Nat) (ho : w.ownsRow 0 49 11 own n xs) (hg2 : w.heap[vb]? = some (.cells vcs tv fz)) (hvl : vs.length = m * 11) (hcs2 : ∀ q x, vs[q]? = some x → vcs[vo + q]? = some x) (hnc2 : m ≤ vc) (hcm2 : vc ≤ maxLen)
    (hne : blkOf own ≠ some vb) (h1 : ∀ x ∈ xs, x.oneCell' = true) (h2 : ∀ x ∈ vs, x.oneCell' = true) :
    Calls Tryz.prog 13 #[own, .int .i64 i, .slice (some ⟨vb, vo, none⟩) m vc] w fun e w' => ∃ v, e = .returned v ∧ InsEndM w w' 49 11 own v (n + m) (insL (i * 11) xs vs) := by
  obtain ⟨hxl, ⟨_, h0⟩ | ⟨g, c, cur, rfl, _, hg, hnc, hcm, hcs, rfl⟩⟩ := ho
  · omega
  have hgl : g < w.heap.size := (Array.getElem?_eq_some_iff.1 hg).1
  have hlen : (insL (i * 11) (cur.toList.take (n * 11)) vs).length = (n + m) * 11 := by
    rw [insL_len (by rw [hxl]; exact Nat.mul_le_mul_right _ (by omega)), hxl, hvl]; omega
  by_cases hroom : n + m ≤ c
  · refine (ins13_shiftM g n c i m vb vo vc cur vcs vs tv fz w hm hi hroom hcm (fun h => hne (by rw [h]; rfl)) hg hcs hg2 hvl hcs2 hnc2 hcm2 h1 h2).mono ?_
    rintro e w' ⟨rfl, A1, rfl, ha, hb⟩
    refine ⟨_, rfl, ⟨⟨hlen, .inr ⟨g, c, A1, rfl, Nat.zero_le _, setRow_heap _ _ _ _ _ _ hg, hroom, hcm, ha.trans hcs, hb⟩⟩, ⟨rfl, rfl, rfl, by rw [setRow_size]; exact Nat.le_refl _, fun k hk => absurd hk (Nat.not_lt_zero k)⟩, fun q hq hb => ?_, fun q hq => .inr hq⟩⟩
    exact setRow_other w.drew _ _ _ (fun h => hb (by rw [h]; rfl))
  · refine (ins13_growM g n c i m vb vo vc cur vcs vs tv fz w hm hi hnc (by omega) hbig hg hcs hg2 hvl hcs2 hnc2 hcm2 h1 h2).mono ?_
    rintro e w' ⟨G, ROW, A0, A1, rfl, hn, hm, rfl, ha, hb⟩
    have e1 := setRow_heap ((w.alloc (.cells ROW 49)).drew) w.heap.size ROW A0 49 (0, 0) (heap_alloc_new w _)
    refine ⟨_, rfl, ⟨⟨hlen, .inr ⟨w.heap.size, G, A1, rfl, Nat.zero_le _, setRow_heap _ _ _ _ _ _ e1, hn, hm, ha, hb⟩⟩, ⟨rfl, rfl, rfl, ?_, fun k hk => absurd hk (Nat.not_lt_zero k)⟩, fun q hq hb => ?_, fun q hq => .inl ?_⟩⟩
    · rw [setRow_size]
      show _ ≤ (((w.alloc _).drew.setRow _ _)).heap.size
      rw [setRow_size]
      show _ ≤ (w.heap.push _).size
      rw [Array.size_push]; omega
    · exact (setRow_other _ _ _ _ (by omega)).trans ((setRow_other (w.alloc (.cells ROW 49)).drew _ _ _ (by omega)).trans (ha_old w _ hq))
    · have : w.heap.size = q := by simpa [blkOf] using hq
      omega
set_option maxHeartbeats 4000000 in
set_option maxRecDepth 100000 in
theorem ins13_endM (w w1 : World) (n : Nat) (base : Option Addr) (c : Nat) (m vb vo vc : Nat) (v' : Value) (hm : 0 < m) (hnc : n ≤ c) (hc : c ≤ maxLen) (hnil : base = none → n = 0 ∧ c = 0)
    (hrun : (Builtin.append_ #[23, 23] 23 #[.slice base n c, .slice (some ⟨vb, vo, none⟩) m vc]).run Tryz.prog w = .ok v' w1) :
    Calls Tryz.prog 13 #[.slice base n c, .int .i64 n, .slice (some ⟨vb, vo, none⟩) m vc] w fun e w' => e = .returned v' ∧ w' = w1 := by
  have hcM : c ≤ 9223372036854775807 := by unfold maxLen at hc; omega
  have mixed := Tryzmixed
  have hm0 : ¬ ((m : Int) = 0) := by omega
  cases base with
  | none =>
    obtain ⟨h0, h1⟩ := hnil rfl
    subst h0 h1
    clear hnil hnc hc hcM
    go_enter Tryz.func13, Tryz.ntmps13
    go_wp2_with (at_builtin; refine Lib.wpList_append_run _ rfl _ _ _ _ rfl _ _ rfl rfl _ _ hrun ?_)
    go_ret
    exact ⟨rfl, rfl⟩
  | some a =>
    obtain ⟨ab, ao, asp⟩ := a
    clear hnil hc
    go_enter Tryz.func13, Tryz.ntmps13
    go_wp2_with (at_builtin; refine Lib.wpList_append_run _ rfl _ _ _ _ rfl _ _ rfl rfl _ _ hrun ?_)
    all_goals (go_ret; exact ⟨rfl, rfl⟩)
set_option maxHeartbeats 4000000 in
set_option maxRecDepth 100000 in
theorem ins13_zeroM (w : World) (n i : Nat) (base : Option Addr) (c : Nat) (a2 : Option Addr) (vc : Nat) (hi : i ≤ n) (hnc : n ≤ c) (hc : c ≤ maxLen) (hnil : base = none → c = 0) :
    Calls Tryz.prog 13 #[.slice base n c, .int .i64 i, .slice a2 0 vc] w fun e w' => e = .returned (.slice base n c) ∧ w' = w := by
  have hcM : c ≤ 9223372036854775807 := by unfold maxLen at hc; omega
  have mixed := Tryzmixed
  have hiM : (i : Int) ≤ (c : Int) := by omega
  have hic : i ≤ c := by omega
  cases base with
  | none =>
    obtain rfl := hnil rfl
    obtain rfl : n = 0 := by omega
    obtain rfl : i = 0 := by omega
    go_enter Tryz.func13, Tryz.ntmps13
    go_wp2
    go_ret
    exact ⟨rfl, rfl⟩
  | some a =>
    obtain ⟨ab, ao, asp⟩ := a
    clear hnil hc
    go_enter Tryz.func13, Tryz.ntmps13
    go_wp2
    all_goals (go_ret; exact ⟨rfl, rfl⟩)
theorem c13M (n i m a r : Nat) (clip : Bool) (F G : Nat → Nat → PV) (hi : i ≤ n) (hn : n + m ≤ 68719476736) :
    HFun Tryz.prog 13 [.one (.ref a n), .one (.p (.raw (.int .i64 i))), .one (.p (.sl m 11 clip G))] [(a, .arr true 11 49 n F)] (.v (.one (.ref r (n + m)))) [(r, .arr true 11 49 (n + m) (insFm m i F G))] [] := by
  rcases Nat.eq_zero_or_pos m with rfl | hm
  · rw [insFm_0]
    exact hfun_ins0 (fun w base c a2 vc h1 h2 h3 => ins13_zeroM w n i base c a2 vc hi h1 h2 fun e => (h3 e).2) fun w base a2 vc h0 => by
      subst h0
      exact ins13_zeroM w 0 i base 0 a2 vc hi (Nat.le_refl _) (Nat.zero_le _) fun _ => rfl
  · rcases Nat.lt_or_eq_of_le hi with hi | rfl
    · exact hfun_insM hm hi (by unfold maxLen; omega) fun w own xs vs vb vo vc vcs tv fz h1 h2 h3 h4 h5 h6 h7 h8 h9 => ins13M n i m hm hi (by omega) w own xs vs vb vo vc vcs tv fz h1 h2 h3 h4 h5 h6 h7 h8 h9
    · obtain ⟨i0, z, hi0, hz0, hzs, hzb, hzc⟩ : ∃ i0 z, Tryz.prog.info? 49 = some i0 ∧ i0.zero = some z ∧ i0.size = 11 ∧ i0.bytes = 160 ∧ z.cells.size = 11 := by
        have h : (Tryz.prog.info? 49).map (fun i => (i.zero.map (fun z => z.cells.size), i.size, i.bytes)) = some (some 11, 11, 160) := by kernel_rfl
        cases hq : Tryz.prog.info? 49 with
        | none => rw [hq] at h; cases h
        | some i0 =>
          rw [hq] at h
          cases hz : i0.zero with
          | none => simp [hz] at h
          | some z => simp [hz] at h; exact ⟨i0, z, rfl, hz, h.2.1, h.2.2, h.1⟩
      exact hfun_insEM Tryz.underlying23 hi0 hz0 hzs hzb hzc hm (by omega) (by unfold maxLen; omega) (fun w w1 base c vb vo vc v' h1 h2 h3 h4 => ins13_endM w w1 i base c m vb vo vc v' hm h1 h2 h3 h4)
end Go.Hx
end
section
namespace Go.Hx
open Go.Proofs
def insJ (i : Nat) (J sp : List Chg) : List Chg := J.take i ++ sp ++ J.drop i
theorem insJ_len {i : Nat} {J sp : List Chg} (hi : i ≤ J.length) : (insJ i J sp).length = J.length + sp.length := by
  unfold insJ
  simp only [List.length_append, List.length_take, List.length_drop]
  omega
theorem insJ_lf {i : Nat} {J sp : List Chg} (hi : i ≤ J.length) : insFm sp.length i (lf Chg.c J) (lf Chg.c sp) = lf Chg.c (insJ i J sp) := by
  funext k j
  have e : (insJ i J sp).getD k default = if k < i then J.getD k default else if k < i + sp.length then sp.getD (k - i) default else J.getD (k - sp.length) default := by
    unfold insJ
    simp only [List.getD]
    by_cases h : k < i
    · rw [if_pos h, List.append_assoc, List.getElem?_append_left (by rw [List.length_take]; omega), List.getElem?_take, if_pos h]
    · rw [if_neg h]
      by_cases h' : k < i + sp.length
      · rw [if_pos h', List.getElem?_append_left (by simp; omega), List.getElem?_append_right (by simp; omega), List.length_take, Nat.min_eq_left hi]
      · rw [if_neg h', List.getElem?_append_right (by simp; omega), List.getElem?_drop]
        congr 2
        simp only [List.length_append, List.length_take, Nat.min_eq_left hi]
        omega
  unfold insFm
  show _ = Chg.c ((insJ i J sp).getD k default) j
  rw [e]
  split
  · rfl
  · split <;> rfl
theorem good13 : goodFn Tryz.prog 13 := ⟨Tryz.f13, Tryz.func13, by kernel_rfl, by kernel_rfl⟩
theorem insJ13 {i : Nat} {J sp : List Chg} (hi : i ≤ J.length) (hn : J.length + sp.length ≤ 68719476736) :
    HFun Tryz.prog 13 [.one (.ref 900 J.length), .one (.p (.raw (.int .i64 i))), .one (.p (chgs sp))] [(900, .arr true 11 49 J.length (lf Chg.c J))] (.v (.one (.ref 901 (insJ i J sp).length))) [(901, .arr true 11 49 (insJ i J sp).length (lf Chg.c (insJ i J sp)))] [] := by
  have q := c13M J.length i sp.length 900 901 false (lf Chg.c J) (lf Chg.c sp) hi hn
  rw [insJ_lf hi, ← insJ_len hi] at q
  exact q
theorem chgsOk_mem {l : List Chg} (h : chgsOk l) : ∀ c ∈ l, c.ok := by
  intro c hc
  obtain ⟨k, hk, rfl⟩ := List.getElem_of_mem hc
  have := h k hk
  rwa [getD_lt _ _ hk] at this
theorem insJ_ok {i : Nat} {J sp : List Chg} (hJ : ∀ c ∈ J, c.ok) (hs : chgsOk sp) : chgsOk (insJ i J sp) := mem_chgsOk fun c hc => by
  rcases List.mem_append.1 hc with h | h
  · rcases List.mem_append.1 h with h | h
    · exact hJ c (List.mem_of_mem_take h)
    · exact chgsOk_mem hs c h
  · exact hJ c (List.mem_of_mem_drop h)
abbrev Few (sp : List Chg) : Prop := ∀ i, i < sp.length → BChg 1048576 (sp.getD i default)
theorem rowB_ok {r : Row} (h : BRow 1048576 r) : r.ok := ⟨Nat.le_trans h.1 (Nat.le_of_ble_eq_true rfl), fun j hj => Nat.le_trans (h.2 j hj) (Nat.le_of_ble_eq_true rfl)⟩
theorem Few.ok {sp : List Chg} (h : Few sp) : chgsOk sp := fun j hj => by
  obtain ⟨_, ht, hr, hv⟩ := h j hj
  exact ⟨⟨Nat.le_trans ht.2.1 (Nat.le_of_ble_eq_true rfl), Nat.le_trans ht.2.2.1 (Nat.le_of_ble_eq_true rfl), fun i hi => rowB_ok (ht.2.2.2 i hi)⟩, rowB_ok hr, Nat.le_trans hv (Nat.le_of_ble_eq_true rfl)⟩
def atJ (k : UInt8) (n : Nat) : Nat := k.toNat % (n + 1)
theorem atJ_le {k : UInt8} {n : Nat} : atJ k n ≤ n := by
  have := Nat.mod_lt k.toNat (show 0 < n + 1 by omega)
  unfold atJ
  omega
end Go.Hx
end
