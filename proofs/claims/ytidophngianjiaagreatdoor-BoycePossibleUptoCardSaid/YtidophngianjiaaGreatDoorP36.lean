/- A part of the proof: lemmas for the theorem of this claim, merged by a program of ours out of Cc2, Cc3, Ls1, Cs24, V23, Cs26, Cs27, Cs28, Cs30, Cs31, Cs32, Cs33, Cs34, Cs35, Cs36, Cz1m, Cs37, Cs40, Cs42, Ls2, Cz2m, Ls3. -/
import Derived.Test.YtidophngianjiaaGreatDoorP28
import Derived.Test.YtidophngianjiaaGreatDoorP35
set_option linter.all false
section
namespace Go.Hx
def prodR : List (List Int) → List Rw
 | [] => [[]]
 | c :: cs => c.flatMap fun z => (prodR cs).map fun r => z :: r
section
variable {N : Nat} {p m : List Fd} {l0 l : List Rw}
theorem mixZ_at {a b : Rw} {s : AS} {i : Nat} (h : i < b.length) : (mixZ a b s).getD i default = if hasI s (i : Int) = true then a.getD i default else b.getD i default := by
 unfold mixZ
 rw [List.getD_eq_getElem?_getD, List.getElem?_map, List.getElem?_range h]
 rfl
theorem mdl_cols (C : Nat → List Int) (hd : ∀ i j z, z ∈ C i → z ∈ C j → i = j) : Mdl N p m (fun x y => x = y ∨ ∃ i, x ∈ C i ∧ y ∈ C i) (fun r => r.length = N ∧ ∀ i, i < N → r.getD i default ∈ C i) where
 refl _ := .inl rfl
 symm h := by
  rcases h with h | ⟨i, h, k⟩
  · exact .inl h.symm
  · exact .inr ⟨i, k, h⟩
 trans h h2 := by
  rcases h with h | ⟨i, h, k⟩
  · rw [h]; exact h2
  · rcases h2 with h2 | ⟨j, h2, k2⟩
    · rw [← h2]; exact .inr ⟨i, h, k⟩
    · have := hd i j _ k h2
      subst this
      exact .inr ⟨i, h, k2⟩
 len h := h.1
 cong h e h2 := ⟨e.trans h.1, fun i hi => by
  have h3 := h.2 i hi
  rcases h2 i (by rw [h.1]; exact hi) with h4 | ⟨j, h4, h5⟩
  · rw [← h4]; exact h3
  · have := hd i j _ h3 h4
    subst this
    exact h5⟩
 fd _ a b ha hb _ := fun i hi _ => .inr ⟨i, ha.2 i (by rw [← ha.1]; exact hi), hb.2 i (by rw [← ha.1]; exact hi)⟩
 mv _ a b ha hb _ := ⟨(mixZ_len _ _ _).trans hb.1, fun i hi => by
  rw [mixZ_at (by rw [hb.1]; exact hi)]
  split
  · exact ha.2 i hi
  · exact hb.2 i hi⟩
def Small (N : Nat) (p m : List Fd) (l0 : List Rw) : Prop := ∀ l, OrdZ l → (∀ r, r ∈ l → LR N p m l0 r) → l.length ≤ 256
end
section
variable {p m : List Fd} {l0 l : List Rw} {n : Int} {σ : Int → Int}
theorem okIx_of {s : St} (h : okSt l p m s) : okIx l p m s := by
 obtain ⟨h1, h2, h3⟩ := h
 refine ⟨h1, h2, fun e => ?_, fun e => ?_⟩
 · rcases h3 with ⟨_, h, _⟩ | ⟨h, _⟩
   · exact h
   · rw [e] at h; cases h
 · rcases h3 with ⟨h, _⟩ | ⟨_, h, _⟩
   · rw [e] at h; cases h
   · exact h
theorem Ch.code (h0 : tok n l0 = true) (hS : Small n.toNat p m l0) (hp : p.all (inU n) = true) (hT : tok n l = true) (h : Ch n.toNat p m l0 l σ) {s : St} (hs : okSt l p m s) : (appE n l p m s).2.2 = 0 := by
 rcases app_ok hT hp hs with e | ⟨l', e, _⟩
 · obtain ⟨mu, i, a, b⟩ := s
   obtain ⟨ha, hb, hs | hs⟩ := hs
   · obtain ⟨h1, h2, h3⟩ := hs
     cases h1
     have h4 : appE n l p m (false, i, a, b) = fdE n l a b (p.getD i default) := rfl
     have hg := (fd_ok hT (List.all_eq_true.1 hp _ (mem_getD h2)) ha hb h3).1
     have hg : fdE n l a b (p.getD i default) = (n, fdL l a b (p.getD i default), 0) := hg
     rw [h4, hg] at e ⊢
   · obtain ⟨h1, h2, h3⟩ := hs
     cases h1
     have h4 : appE n l p m (true, i, a, b) = mvE n l a b (m.getD i default) := rfl
     have h5 : stepM l (m.getD i default) a b = true := h3
     unfold stepM at h5
     rw [Bool.and_eq_true] at h5
     have h6 : mvE n l a b (m.getD i default) = addE n l (mixZ (l.getD a default) (l.getD b default) ((m.getD i default).lhs ||| (m.getD i default).rhs)) := if_pos h5.1
     have hl0 : ∀ r, r ∈ l0 → r.length = n.toNat := fun r hr => (tok_wel h0 r hr).1
     have h7 := hS (canon (l ++ [mixZ (l.getD a default) (l.getD b default) ((m.getD i default).lhs ||| (m.getD i default).rhs)])) (ordZ_canon _) fun r hr => by
      rcases List.mem_append.1 (mem_canon.1 hr) with h8 | h8
      · exact h.rows r h8
      · rw [List.mem_singleton.1 h8]
        exact (least hl0).mv (mem_getD h2) (h.rows _ (mem_getD ha)) (h.rows _ (mem_getD hb)) (agr_E hl0 h5.1)
     rw [h4, h6]
     unfold addE
     rw [if_neg (by omega)]
 · rw [e]
def TrZ (n : Int) (p m : List Fd) (lend : List Rw) : List Rw → List St → Prop
 | l, [] => l = lend
 | l, s :: r => tok n l = true ∧ okSt l p m s ∧ ∃ l', appE n l p m s = (n, l', 0) ∧ ¬ l' = l ∧ TrZ n p m lend l' r
end
def stC (n : Int) (ps : List AS) (c : Nat) : List Int := if c < n.toNat then (List.range ps.length).map fun i => stV n i (ps.getD i default) c else []
section
variable {n : Int} {ps : List AS} {p m : List Fd}
theorem stV_mod (h0 : 0 ≤ n) {i c : Nat} {q : AS} (hc : c < n.toNat) : stV n i q c % n = (c : Int) := by
 unfold stV
 split
 · exact Int.emod_eq_of_lt (by omega) (by omega)
 · have e : n + (i : Int) * n + (c : Int) = (c : Int) + n * (1 + (i : Int)) := by rw [Int.mul_add, Int.mul_one, Int.mul_comm (i : Int) n]; omega
   rw [e, Int.add_mul_emod_self_left]
   exact Int.emod_eq_of_lt (by omega) (by omega)
theorem stC_mod (h0 : 0 ≤ n) {c : Nat} {z : Int} (h : z ∈ stC n ps c) : c < n.toNat ∧ z % n = (c : Int) := by
 unfold stC at h
 split at h
 · rename_i hc
   obtain ⟨i, _, rfl⟩ := List.mem_map.1 h
   exact ⟨hc, stV_mod h0 hc⟩
 · simp at h
theorem stC_dis (h0 : 0 ≤ n) : ∀ i j z, z ∈ stC n ps i → z ∈ stC n ps j → i = j := fun i j z h k => by
 have h1 := (stC_mod h0 h).2
 have h2 := (stC_mod h0 k).2
 omega
theorem stRows_col {r : Rw} (hr : r ∈ stRows n ps) : r.length = n.toNat ∧ ∀ i, i < n.toNat → r.getD i default ∈ stC n ps i := by
 unfold stRows at hr
 obtain ⟨k, hk, rfl⟩ := List.mem_map.1 hr
 refine ⟨stR_len _ _ _, fun i hi => ?_⟩
 rw [stR_at hi]
 unfold stC
 rw [if_pos hi]
 exact List.mem_map.2 ⟨k, hk, rfl⟩
end
end Go.Hx
end
section
namespace Go.Hx
section
variable {n : Int} {ps : List AS} {p m : List Fd} {l l0 : List Rw} {σ : Int → Int}
theorem LR_mem {N : Nat} {l l' : List Rw} (h : ∀ r, r ∈ l ↔ r ∈ l') {r : Rw} : LR N p m l r ↔ LR N p m l' r :=
 ⟨fun k E R hm hl => k E R hm fun r hr => hl r ((h r).1 hr), fun k E R hm hl => k E R hm fun r hr => hl r ((h r).2 hr)⟩
theorem stC_ge (h0 : 0 ≤ n) {c : Nat} {z : Int} (h : z ∈ stC n ps c) : z = (c : Int) ∨ n ≤ z := by
 unfold stC at h
 split at h
 · obtain ⟨i, _, rfl⟩ := List.mem_map.1 h
   unfold stV
   split
   · exact .inl rfl
   · right
     have := Int.mul_nonneg (show (0 : Int) ≤ (i : Int) by omega) h0
     omega
 · simp at h
theorem Ch.first (h0 : 0 ≤ n) (h : Ch n.toNat p m (canon (stRows n ps)) l σ) : (firstZ n).map σ = firstZ n := by
 refine map_fix fun z hz => ?_
 unfold firstZ at hz
 obtain ⟨c, hc, rfl⟩ := List.mem_map.1 hz
 have hc := List.mem_range.1 hc
 have h1 := h.sym (c : Int) _ _ (mdl_cols (stC n ps) (stC_dis h0)) fun r hr => stRows_col (mem_canon.1 hr)
 rcases h1 with h1 | ⟨i, h1, h2⟩
 · exact h1.symm
 · have h3 := (stC_mod h0 h1).2
   have h4 := Int.emod_eq_of_lt (a := (c : Int)) (b := n) (by omega) (by omega)
   have h5 : i = c := by omega
   subst h5
   have h6 := h.le (i : Int)
   rcases stC_ge h0 h2 with h7 | h7
   · exact h7
   · omega
theorem any_first {r : Rw} : (l.any fun x => decide (x = r)) = decide (r ∈ l) := by
 rw [Bool.eq_iff_iff, List.any_eq_true, decide_eq_true_iff]
 constructor
 · rintro ⟨x, hx, e⟩
   rw [← of_decide_eq_true e]; exact hx
 · intro h
   exact ⟨r, h, decide_eq_true rfl⟩
def swI (n z : Int) : Int := if n ≤ z ∧ z < 2 * n then z + n else if 2 * n ≤ z ∧ z < 3 * n then z - n else z
abbrev cplF (n : Int) (x : Fd) : Fd := ⟨x.lhs, fullI n &&& ~~~(x.lhs ||| x.rhs)⟩
end
end Go.Hx
end
section
namespace Go.Hx
section
variable {n : Int} {p m : List Fd} {l0 l : List Rw} {σ : Int → Int}
theorem app_code (hT : tok n l = true) (hp : p.all (inU n) = true) (hm : m = []) {s : St} (hs : okSt l p m s) : (appE n l p m s).2.2 = 0 := by
 obtain ⟨mu, i, a, b⟩ := s
 obtain ⟨ha, hb, hs | hs⟩ := hs
 · obtain ⟨h1, h2, h3⟩ := hs
   cases h1
   have h4 : appE n l p m (false, i, a, b) = fdE n l a b (p.getD i default) := rfl
   have hg : fdE n l a b (p.getD i default) = (n, fdL l a b (p.getD i default), 0) := (fd_ok hT (List.all_eq_true.1 hp _ (mem_getD h2)) ha hb h3).1
   rw [h4, hg]
 · obtain ⟨_, h2, _⟩ := hs
   subst hm
   exact absurd h2 (Nat.not_lt_zero _)
theorem steps_gen (hl0 : ∀ r, r ∈ l0 → r.length = n.toNat) (hp : p.all (inU n) = true) (Z : List Int) : ∀ (F : Nat) (l : List Rw) (acc : List St) (σ : Int → Int), tok n l = true → Ch n.toNat p m l0 l σ → Cov Z l → muC Z l < F →
 (stepsE F n l p m acc = ([], (0, []), 3) ∧ ¬ m = []) ∨ ∃ sts lend σ', stepsE F n l p m acc = (acc ++ sts, (n, lend), 0) ∧ Ch n.toNat p m l0 lend σ' ∧ tok n lend = true ∧ nextE lend p m = none ∧ TrZ n p m lend l sts := by
 intro F
 induction F with
 | zero => intro _ _ _ _ _ _ h; exact absurd h (Nat.not_lt_zero _)
 | succ F ih =>
  intro l acc σ hT hC hZ hF
  cases hn : nextE l p m with
  | none => exact .inr ⟨[], l, σ, by rw [stepsE_end (by omega) hn, List.append_nil], hC, hT, hn, rfl⟩
  | some s =>
   have hs := next_ok hn
   rcases app_ok hT hp hs with e | ⟨l', e, hT', h3⟩
   · left
     refine ⟨stepsE_err (by omega) hn e (by decide), fun hm => ?_⟩
     have := app_code hT hp hm hs
     rw [e] at this
     exact absurd this (by decide)
   · obtain ⟨h4, h5⟩ := h3 Z hZ
     obtain ⟨_, σ', hC'⟩ := Ch.app hl0 hT hp hC (okIx_of hs) (by rw [e])
     rw [e] at hC'
     rcases ih l' (acc ++ [s]) σ' hT' hC' h4 (by omega) with ⟨q, q0⟩ | ⟨sts, lend, σ2, q1, q2, q3, q4, q5⟩
     · left
       exact ⟨by rw [stepsE_next (by omega) hn e, Nat.add_sub_cancel, q], q0⟩
     · right
       refine ⟨s :: sts, lend, σ2, ?_, q2, q3, q4, hT, hs, l', e, fun e => ?_, q5⟩
       · rw [stepsE_next (by omega) hn e, Nat.add_sub_cancel, q1, List.append_assoc]
         rfl
       · subst e
         omega
theorem chase_gen (hT : tok n l = true) (hb : bErr n p m = 0) : (chaseE FU n l p m = ([], (0, []), 3) ∧ ¬ m = []) ∨ ∃ sts lend σ, chaseE FU n l p m = (sts, (n, lend), 0) ∧ Ch n.toNat p m l lend σ ∧ tok n lend = true ∧ nextE lend p m = none ∧ TrZ n p m lend l sts := by
 have hck : ckE n l p m = 0 := (if_pos hT).trans hb
 rw [chaseE_1 hck]
 rcases steps_gen (fun r hr => (tok_wel hT r hr).1) (bErr_ok hb).2.2.2.1 l.flatten FU l [] id hT Ch.start (cov_self l) (mu_all hT) with h | ⟨sts, lend, σ', q1, q⟩
 · exact .inl h
 · exact .inr ⟨sts, lend, σ', by rw [q1, List.nil_append], q⟩
def trL (n : Int) (p m : List Fd) : List Rw → List St → List (List Rw)
 | l, [] => [l]
 | l, s :: r => l :: trL n p m (appE n l p m s).2.1 r
theorem trL_last : ∀ {sts : List St} {l lend : List Rw}, TrZ n p m lend l sts → lend ∈ trL n p m l sts
 | [], l, lend, h => by
  have h : l = lend := h
  subst h
  simp [trL]
 | s :: r, l, lend, h => by
  obtain ⟨_, _, l', e, _, h⟩ := h
  unfold trL
  rw [e]
  exact List.mem_cons_of_mem _ (trL_last h)
theorem trL_ch (hl0 : ∀ r, r ∈ l0 → r.length = n.toNat) (hp : p.all (inU n) = true) : ∀ {sts : List St} {l lend : List Rw} {σ : Int → Int}, TrZ n p m lend l sts → tok n lend = true → Ch n.toNat p m l0 l σ → ∀ t, t ∈ trL n p m l sts → ∃ σ, Ch n.toNat p m l0 t σ
 | [], l, lend, σ, h, _, hC, t, ht => by
  rw [List.mem_singleton.1 (show t ∈ [l] from ht)]
  exact ⟨σ, hC⟩
 | s :: r, l, lend, σ, h, hTe, hC, t, ht => by
  obtain ⟨hT, hs, l', e, _, h⟩ := h
  unfold trL at ht
  rw [e] at ht
  rcases List.mem_cons.1 ht with rfl | ht
  · exact ⟨σ, hC⟩
  · obtain ⟨_, σ', hC'⟩ := Ch.app hl0 hT hp hC (okIx_of hs) (by rw [e])
    rw [e] at hC'
    exact trL_ch hl0 hp h hTe hC' t ht
end
section
variable {n : Int} {ps : List AS} {p m : List Fd}
theorem start_tokR (h0 : 0 ≤ n) (h16 : n ≤ 16) (hk : ps.length ≤ 64) : tok n (canon (stRows n ps)) = true := by
 refine tok_canon h0 h16 ?_ fun r hr => ?_
 · have := canon_len (stRows n ps)
   rw [stRows_len] at this
   omega
 · obtain ⟨h1, h2⟩ := stRows_col hr
   refine ⟨h1, fun z hz => ?_⟩
   obtain ⟨i, hi, rfl⟩ := mem_at hz
   rcases stC_ge h0 (h2 i (by omega)) with h3 | h3 <;> omega
theorem chase_fst (hk : ps.length ≤ 64) (hb : bErr n p m = 0) :
 (chaseE FU n (canon (stRows n ps)) p m = ([], (0, []), 3) ∧ ¬ m = []) ∨ ∃ sts lend, chaseE FU n (canon (stRows n ps)) p m = (sts, (n, lend), 0) ∧ (firstZ n ∈ lend ↔ LR n.toNat p m (stRows n ps) (firstZ n)) ∧
  TrZ n p m lend (canon (stRows n ps)) sts ∧ tok n lend = true ∧ ((∃ t, t ∈ trL n p m (canon (stRows n ps)) sts ∧ firstZ n ∈ t) ↔ firstZ n ∈ lend) := by
 obtain ⟨h0, h16, _, hp, _⟩ := bErr_ok hb
 have hT := start_tokR h0 h16 hk
 have hl0 : ∀ r, r ∈ canon (stRows n ps) → r.length = n.toNat := fun r hr => (tok_wel hT r hr).1
 rcases chase_gen hT hb with h | ⟨sts, lend, σ, h1, h2, h3, h4, h5⟩
 · exact .inl h
 · right
   have hf : firstZ n ∈ lend ↔ LR n.toNat p m (canon (stRows n ps)) (firstZ n) := by
    rw [h2.mem h3 hl0 h4]
    exact ⟨fun h => h.1, fun h => ⟨h, h2.first h0⟩⟩
   refine ⟨sts, lend, h1, by rw [hf, LR_mem (l' := stRows n ps) fun r => mem_canon], h5, h3, ?_⟩
   constructor
   · rintro ⟨t, ht, hft⟩
     obtain ⟨σ', hC⟩ := trL_ch hl0 hp h5 h3 Ch.start t ht
     exact hf.2 (hC.rows _ hft)
   · intro h
     exact ⟨lend, trL_last h5, h⟩
end
end Go.Hx
end
section
namespace Go.Hx
section
variable {n : Int} {l : List Fd}
theorem inU_all (h : vErr n l = 0) : ∀ f ∈ l, sub f.lhs (fullI n) ∧ sub f.rhs (fullI n) := fun f hf => by
 obtain ⟨h0, h1, _, h3⟩ := vErr_ok h
 exact (inU_iff h0 h1).1 (List.all_eq_true.1 h3 f hf)
theorem full_closed (h : vErr n l = 0) : closedB l (fullI n) := fun f hf _ => (inU_all h f hf).2
theorem clo_full (h : vErr n l = 0) {x : AS} (hx : sub x (fullI n)) : sub (clo l x) (fullI n) := clo_least (full_closed h) hx
end
theorem mapT {α β : Type} [Inhabited α] {f : α → β} {l : List α} {i : Nat} (h : i < l.length) : (l.take (i + 1)).map f = (l.take i).map f ++ [f (l.getD i default)] := by
 rw [take_snoc h, List.map_append]
 rfl
structure Dps where
 n : BitVec 8
 l : List Dp
deriving Inhabited
def Dps.num (d : Dps) : Int := ((d.n.toNat % 7 : Nat) : Int)
def Dps.fds (d : Dps) : List Fd := d.l.map (Dp.fd d.num)
def Dps.c (d : Dps) : Nat → PV
 | 0 => .raw (.int .u8 (d.n.toNat : Int))
 | 1 => dpl d.l
 | _ => .any
abbrev Dps.pc (d : Dps) : PC := .agg [d.c 0, d.c 1]
theorem num_le (d : Dps) : 0 ≤ d.num ∧ d.num ≤ 6 := by unfold Dps.num; omega
theorem dps_ok {d : Dps} (h : d.l.length ≤ 6) : vErr d.num d.fds = 0 := by
 obtain ⟨h0, h1⟩ := num_le d
 unfold vErr
 rw [if_neg (by omega), if_neg (by unfold Dps.fds; rw [List.length_map]; omega), if_pos]
 rw [List.all_eq_true]
 intro f hf
 unfold Dps.fds at hf
 obtain ⟨x, hx, rfl⟩ := List.mem_map.1 hf
 exact (inU_iff h0 (by omega)).2 ⟨sub_and_l, sub_and_l⟩
theorem dps_err {d : Dps} (h : d.l.length ≤ 6) : errS d.num d.fds 8 = 0 := by
 unfold errS
 rw [if_pos (dps_ok h), if_neg (by have := (num_le d).2; omega)]
end Go.Hx
end
section
namespace Go.Hx
open Go.Proofs
set_option maxRecDepth 100000
theorem good57 : goodFn Tryz.prog 57 := ⟨Tryz.f57, Tryz.func57, by kernel_rfl, by kernel_rfl⟩
theorem cList (n : Int) (l : List Dp) (hl : l.length ≤ 16777216) : HPure Tryz.prog 57 [pI n, pP (dpl l)] (prOf [pP (fdl (l.map (Dp.fd n)))]) := by
 refine hpure_of (nt := 37) Tryzok Tryz.func57 rfl rfl l9 ?_; refine hw_seq ?_; refine gy ?_; refine qy ?_; refine rg_nil ?_; refine hw_seq ?_; refine gy ?_; refine qy ?_
 refine rc rfl rfl rfl rfl rfl rfl good20 (cRFull n) (CoL.refl _) rfl rfl ?_; refine qy ?_; refine rg_nil ?_; refine hw_seq ?_; refine gy ?_; refine qy ?_; refine rg_nil ?_; (iterate 2 refine hw_seq ?_); refine gy ?_; refine qy ?_
 refine rg_nil ?_; refine hw_block ?_; refine hw_adopt 6 900 true 2 40 (lf Fd.c []) (by decide) rfl (CoP.sl rfl (.inr rfl) (fun h => h) (fun i j hi _ => absurd hi (Nat.not_lt_zero i))) (.inr rfl) rfl ?_
 refine hw_loopK (ι := Nat) ⟨[(1, some _), (5, some _)], []⟩ ⟨⟨c9, c9, trivial⟩, trivial⟩ (fun i => ⟨[(6, some (.v (.one (.ref 900 ((l.take i).map (Dp.fd n)).length)))), (7, some (vI i))], [(900, some (.arr true 2 40 ((l.take i).map (Dp.fd n)).length (lf Fd.c ((l.take i).map (Dp.fd n)))))]⟩) (fun i => i ≤ l.length) (fun i => l.length - i) (0) (Nat.zero_le _) ⟨⟨zy, zy, trivial⟩, ⟨u9, trivial⟩⟩ ?_
 rintro i hi
 have hlen : ((l.take i).map (Dp.fd n)).length ≤ i := by rw [List.length_map, List.length_take]; omega
 (iterate 2 refine hw_seq ?_); refine gy ?_; (iterate 4 refine qy ?_); refine rg_nil ?_; refine hw_cond _ rfl (fun r0 => ?_) (fun r0 => ?_)
 ·
  have h0 := of_decide_eq_true r0
  try simp only [ty] at h0
  refine hw_skip ?_; refine hw_seq ?_; refine hw_block ?_; refine hw_draw (E := TryzE) Tryzok Tryzmixed [0, 1, 2, 3, 4, 5, 6, 7, 8, 9, 10, 11, 12, 13, 14, 15, 16, 17, 18, 19, 20] ?_; (iterate 18 refine qy ?_); refine m9 0 ?_
  refine ra 1 true rfl rfl rfl rfl rfl rfl ?_; refine qy ?_; refine rg_nil ?_; refine ⟨by kernel_rfl, ?_⟩; refine gy ?_; (iterate 3 refine qy ?_); refine rg_nil ?_; refine ⟨i + 1, ?_, ?_, ?_⟩
  · show i + 1 ≤ _; omega
  · first | omega | (dsimp only; omega)
  · exact ⟨⟨⟨_, rfl, (ref_app (mapT (by omega)))⟩, zy, c9, c9, trivial⟩, ⟨⟨_, rfl, (arr_app2 (mapT (by omega)) (CoP.of_eq (congrArg (fun z => PV.raw (.int .u32 z)) (u8_and _ _))) (CoP.of_eq (congrArg (fun z => PV.raw (.int .u32 z)) (u8_and _ _))))⟩, trivial⟩⟩
 ·
  have h0 := of_decide_eq_false r0
  try simp only [ty] at h0
  obtain rfl : i = l.length := by omega
  refine hw_exit ?_; refine hw_seq ?_; refine gy ?_; (iterate 2 refine qy ?_); refine rg_nil ?_; refine hw_freeze 4 rfl rfl rfl ?_; refine hw_ret ?_; refine ⟨.inr rfl, ?_⟩
  exact f9 rfl rfl (⟨CoC.one (CoP.of_eq (by rw [List.take_length]; rfl)), trivial⟩)
theorem good28 : goodFn Tryz.prog 28 := ⟨Tryz.f28, Tryz.func28, by kernel_rfl, by kernel_rfl⟩
theorem cOf (d : Dps) (hl : d.l.length ≤ 16777216) : HPure Tryz.prog 28 [d.pc] (prOf [pI d.num, pP (fdl d.fds), pB (decide (d.l.length ≤ 6))]) := by
 refine hpure_of (nt := 19) Tryzok Tryz.func28 rfl rfl l9 ?_; refine hw_seq ?_; refine gy ?_; refine m9 0 ?_; (iterate 3 refine qy ?_); refine rg_nil ?_; refine hw_seq ?_; refine gy ?_; (iterate 5 refine qy ?_); refine rg_nil ?_
 refine hw_seq ?_; refine hw_draw (E := TryzE) Tryzok Tryzmixed [0, 1, 2, 3, 4, 5, 6, 7, 8, 9, 10, 11] ?_; (iterate 4 refine qy ?_); refine rc rfl rfl rfl rfl rfl rfl good57 (cList d.num d.l hl) (CoL.refl _) rfl rfl ?_
 (iterate 7 refine qy ?_); refine rg_nil ?_; refine ⟨by kernel_rfl, ?_⟩; refine hw_ret ?_; refine ⟨.inr rfl, ?_⟩
 exact f9 rfl rfl (⟨cci (show (d.n.toNat : Int) % 7 = d.num by unfold Dps.num; omega), CoC.refl _, ccb (decide_eq_decide.2 (by omega)), trivial⟩)
end Go.Hx
end
section
namespace Go.Hx
def noA (s : AS) (a : Nat) : AS := s &&& ~~~((1 : AS) <<< a)
def rkStep (n : Int) (l : List Fd) (s : AS) (a : Nat) : AS := if skey n l (noA s a) = true then noA s a else s
def lessK (n : Int) (l : List Fd) (s : AS) (k : Nat) : AS := (List.range k).foldl (fun s j => rkStep n l s (n.toNat - 1 - j)) s
def rkE (n : Int) (l : List Fd) (s : AS) : Int := if vErr n l = 0 then (if skey n l s = true then 0 else 1) else vErr n l
def rkS (n : Int) (l : List Fd) (s : AS) : AS := if rkE n l s = 0 then lessK n l s n.toNat else 0
def isKey (n : Int) (l : List Fd) (s : AS) : Bool := skey n l s && (List.range n.toNat).all fun a => !(s.getLsbD a && skey n l (noA s a))
theorem isKey_t {n : Int} {l : List Fd} {s : AS} (h : skey n l s = true) (h2 : ∀ a, a < n.toNat → (s.getLsbD a && skey n l (noA s a)) = false) : isKey n l s = true := by
 unfold isKey
 rw [h, Bool.true_and, List.all_eq_true]
 intro a ha
 rw [h2 a (List.mem_range.1 ha)]
 rfl
def keysT (n : Int) (l : List Fd) (i : Nat) : List AS := ((List.range i).map (BitVec.ofNat 32)).filter (isKey n l)
def keysL (n : Int) (l : List Fd) : List AS := if vErr n l = 0 then ord (keysT n l (2 ^ n.toNat)) else []
end Go.Hx
end
section
namespace Go.Hx
def bC : Bool → Nat → PV := fun b _ => .raw (.bool b)
def supN (n : Int) (l : List Fd) (k : Nat) : Bool := decide (clo l (BitVec.ofNat 32 k) = fullI n)
def supT (n : Int) (l : List Fd) (i : Nat) : List Bool := (List.range (2 ^ n.toNat)).map fun k => decide (k < i) && supN n l k
def supL (n : Int) (l : List Fd) : List Bool := supT n l (2 ^ n.toNat)
end Go.Hx
end
section
namespace Go.Hx
section
variable {n : Int} {l : List Fd}
def okA (n : Int) (l : List Fd) (i a : Nat) : Bool := supN n l i && (List.range a).all fun b => !(i.testBit b && supN n l (i ^^^ 2 ^ b))
section
variable {i a : Nat} (hv : vErr n l = 0) (hi : i < 2 ^ n.toNat) (ha : (a : Int) < n) (hx : i ^^^ 2 ^ a < 2 ^ n.toNat)
include hv hi ha hx
end
end
end Go.Hx
end
section
namespace Go.Hx
def downP (s : AS) : Nat → AS → List AS
 | 0, _ => []
 | n + 1, x => if x = 0 then [] else x :: downP s n ((x - 1) &&& s)
def tsubs (s : AS) : List AS := 0 :: downP s (s.toNat + 1) s
theorem sub_zero (s : AS) : sub 0 s := sub_bit.2 fun i hi h => by simp at h
def TsI (s : AS) (x : Nat × List AS × AS) : Prop := x.2.1 ++ downP s x.1 x.2.2 = tsubs s ∧ x.2.2.toNat < x.1 ∧ x.2.1.length + x.1 = s.toNat + 2
def supP (l : List Fd) (p s : AS) : Bool := decide (sub p (clo l s))
def minL (l : List Fd) (p x : AS) : Bool := (List.range 32).all fun a => !(x.getLsbD a && supP l p (noA x a))
def MinI (l : List Fd) (p x r : AS) : Prop := sub r x ∧ ∀ a, a < 32 → x.getLsbD a = true → r.getLsbD a = true ∨ supP l p (noA x a) = false
def pkey (l : List Fd) (p x : AS) : Bool := supP l p x && minL l p x
def primeS (l : List Fd) (p : AS) : AS := orL ((tsubs p).filter (pkey l p))
theorem orL_bit {k : Nat} : ∀ {ps : List AS} {s : AS}, (ps.foldl (· ||| ·) s).getLsbD k = (s.getLsbD k || ps.any fun x => x.getLsbD k)
 | [], s => by simp
 | x :: ps, s => by
  rw [List.foldl_cons, orL_bit, BitVec.getLsbD_or, List.any_cons, Bool.or_assoc]
def primeT (l : List Fd) (p : AS) (i : Nat) : AS := orL (((tsubs p).take i).filter (pkey l p))
end Go.Hx
end
section
namespace Go.Hx
def keyA (l : List Fd) (p x : AS) (a : Nat) : Bool := (List.range a).all fun b => !(x.getLsbD b && supP l p (noA x b))
def numR (i : Nat) : List AS := (List.range i).map (BitVec.ofNat 32)
def prQ (l : List Fd) (p x : AS) : Bool := decide (sub x p) && pkey l p x
def primeR (l : List Fd) (p : AS) (i : Nat) : AS := orL ((numR i).filter (prQ l p))
section
variable {l : List Fd} {p : AS} {i : Nat}
end
def badL (l : List Fd) (p x : AS) : Bool := !supP l p x && decide (((clo l x &&& p) &&& ~~~x) &&& ~~~primeS l p ≠ 0)
def localS (l : List Fd) (p : AS) : Bool := !(tsubs p).any (badL l p)
def locE (n : Int) (l : List Fd) (p : AS) : Int := if vErr n l = 0 then (if sub p (fullI n) then 0 else 1) else vErr n l
def locB (n : Int) (l : List Fd) (p : AS) : Bool := decide (locE n l p = 0) && localS l p
end Go.Hx
end
section
namespace Go.Hx
section
variable {n : Int} {l : List Fd}
theorem noA_sub {x : AS} {a : Nat} : sub (noA x a) x := sub_and_r
def vio3 (n : Int) (l : List Fd) (f : Fd) : Bool := decide (clo l f.lhs ≠ fullI n) && decide (f.rhs &&& ~~~primeS l (fullI n) ≠ 0)
def viosT (n : Int) (l : List Fd) (i : Nat) : List Fd := ((minE n l).take i).filter (vio3 n l)
def viosE (n : Int) (l : List Fd) : List Fd := (minE n l).filter (vio3 n l)
end
end Go.Hx
end
section
namespace Go.Hx
def secK (l : List Fd) (pr k : AS) : Bool := (List.range 32).all fun a => !k.getLsbD a || decide (sub (clo l (noA k a)) pr)
def secS (n : Int) (l : List Fd) : Bool := (keysL n l).all (secK l (orL (keysL n l)))
def secR (n : Int) (l : List Fd) : Bool := decide (vErr n l = 0) && secS n l
section
variable {l : List Fd} {pr k : AS}
def SecI (l : List Fd) (pr k r : AS) : Prop := sub r k ∧ ∀ a, a < 32 → k.getLsbD a = true → r.getLsbD a = true ∨ sub (clo l (noA k a)) pr
def SecJ (l : List Fd) (pr k : AS) (s : Nat) : Prop := ∀ j, j < s → sub (BitVec.ofNat 32 j) k → sub (clo l (BitVec.ofNat 32 j)) pr
end
section
variable {n : Int} {l : List Fd}
end
end Go.Hx
end
section
namespace Go.Hx
def mgR (l : List Fd) (s : AS) : AS := (l.filter fun f => decide (f.lhs = s)).foldl (fun a f => a ||| f.rhs) 0
def mgF (l : List Fd) (s : AS) : Fd := ⟨s, mgR l s⟩
def mrgS (l : List Fd) : List Fd := (ord (l.map Fd.lhs)).map (mgF l)
end Go.Hx
end
section
namespace Go.Hx
open Go.Proofs
def rhsIn (t : AS) (l : List Fd) : Prop := ∀ x ∈ l, sub x.rhs t
def canE (n : Int) (l : List Fd) : List Fd := mrgS (minE n l)
def pt (f : Fd) : AS := f.lhs ||| f.rhs
section
variable {n : Int} {l : List Fd}
def supAt (n : Int) (l : List Fd) (i : Nat) : Bool := ((canE n l).take i).any fun f => skey n l (pt f)
def ptsL (n : Int) (l : List Fd) : List AS := (canE n l).map pt
def synS (n : Int) (l : List Fd) : List AS := maxl (if supAt n l (canE n l).length = true then ptsL n l else ptsL n l ++ [rkS n l (fullI n)])
def synE (n : Int) (l : List Fd) : List AS := if vErr n l = 0 then synS n l else []
def synP (n : Int) (l : List Fd) : List AS := if supAt n l (canE n l).length = true then ptsL n l else ptsL n l ++ [rkS n l (fullI n)]
end
end Go.Hx
end
section
namespace Go.Hx
def Eqv (l k : List Fd) : Prop := ∀ s, closedB l s ↔ closedB k s
theorem Eqv.refl (l : List Fd) : Eqv l l := fun s => Iff.rfl
theorem Eqv.trans {a b c : List Fd} (h : Eqv a b) (k : Eqv b c) : Eqv a c := fun s => (h s).trans (k s)
theorem Eqv.clo {l k : List Fd} (h : Eqv l k) (s : AS) : clo l s = clo k s :=
 sub_antisymm (clo_least ((h _).2 clo_isClosed) clo_ge) (clo_least ((h _).1 clo_isClosed) clo_ge)
end Go.Hx
end
section
namespace Go.Hx
def openP (l : List Fd) (ps : List AS) (t : AS) : Prop := ∀ p ∈ ps, sub (clo l (t &&& p) &&& p) t
theorem moreB_f {l : List Fd} {z p : AS} : moreB l z p = false ↔ sub (clo l (z &&& p) &&& p) z := by
 unfold moreB moreS sub
 rw [decide_eq_false_iff_not, Decidable.not_not, BitVec.and_comm p]
theorem and_mono {a b c : AS} (h : sub a b) : sub (a &&& c) (b &&& c) := sub_and_both (sub_trans sub_and_r h) sub_and_l
theorem folF_fix {l : List Fd} {ps : List AS} : ∀ (n : Nat) (z : AS), 4294967296 < n + z.toNat → openP l ps (folF l ps n z)
 | 0, z, h => by have := z.isLt; omega
 | n + 1, z, h => by
  unfold folF
  cases hf : ps.find? (moreB l z) with
  | none =>
   intro p hp
   have := List.find?_eq_none.1 hf p hp
   exact moreB_f.1 (by simpa using this)
  | some p =>
   have hm := List.find?_some hf
   have := moreS_lt hm
   exact folF_fix n _ (by omega)
theorem folF_ge {l : List Fd} {ps : List AS} : ∀ (n : Nat) (z : AS), sub z (folF l ps n z)
 | 0, z => sub_refl z
 | n + 1, z => by
  unfold folF
  cases hf : ps.find? (moreB l z) with
  | none => exact sub_refl z
  | some p => exact sub_trans sub_or_l (folF_ge n _)
theorem folF_le {l : List Fd} {ps : List AS} {t : AS} (ht : openP l ps t) : ∀ (n : Nat) (z : AS), sub z t → sub (folF l ps n z) t
 | 0, z, h => h
 | n + 1, z, h => by
  unfold folF
  cases hf : ps.find? (moreB l z) with
  | none => exact h
  | some p =>
   refine folF_le ht n _ (or_sub h ?_)
   have hp := List.mem_of_find?_eq_some hf
   refine sub_trans ?_ (ht p hp)
   unfold moreS
   refine sub_trans sub_and_r ?_
   rw [BitVec.and_comm]
   exact and_mono (clo_mono (and_mono h))
theorem kept_fix (l : List Fd) (ps : List AS) (z : AS) : openP l ps (kept l ps z) := folF_fix _ _ (by have := z.isLt; omega)
theorem kept_ge {l : List Fd} {ps : List AS} {z : AS} : sub z (kept l ps z) := folF_ge _ _
theorem kept_le {l : List Fd} {ps : List AS} {z t : AS} (ht : openP l ps t) (h : sub z t) : sub (kept l ps z) t := folF_le ht _ _ h
def pStep (l : List Fd) (s p : AS) : AS := s ||| (clo l (s &&& p) &&& p)
def pRound (l : List Fd) (ps : List AS) (s : AS) : AS := ps.foldl (pStep l) s
theorem pRound_ge {l : List Fd} : ∀ {ps : List AS} {s : AS}, sub s (pRound l ps s)
 | [], s => sub_refl s
 | p :: ps, s => sub_trans (sub_or_l (b := clo l (s &&& p) &&& p)) (pRound_ge (ps := ps))
theorem pRound_le {l : List Fd} {ps qs : List AS} {t : AS} (ht : openP l qs t) : ∀ {s : AS}, (∀ p ∈ ps, p ∈ qs) → sub s t → sub (pRound l ps s) t := by
 induction ps with
 | nil => intro s _ h; exact h
 | cons p ps ih =>
  intro s hp h
  exact ih (fun q hq => hp q (by simp [hq])) (or_sub h (sub_trans (and_mono (clo_mono (and_mono h))) (ht p (hp p (by simp)))))
theorem pRound_fix {l : List Fd} : ∀ {ps : List AS} {s : AS}, pRound l ps s = s → openP l ps s
 | [], s, h => fun p hp => by cases hp
 | p :: ps, s, h => by
  have h1 : sub (pStep l s p) s := by
   have := pRound_ge (l := l) (ps := ps) (s := pStep l s p)
   rw [show pRound l ps (pStep l s p) = s from h] at this
   exact this
  have h2 : pStep l s p = s := sub_antisymm h1 sub_or_l
  have h3 : pRound l ps s = s := by
   have h := h
   unfold pRound at h ⊢
   rw [List.foldl_cons, h2] at h
   exact h
  intro q hq
  rcases List.mem_cons.1 hq with rfl | hq
  · exact sub_trans sub_or_r h1
  · exact pRound_fix h3 q hq
theorem pRound_t {l : List Fd} {ps : List AS} {s : AS} {i : Nat} (hi : i < ps.length) : pRound l (ps.take (i + 1)) s = pStep l (pRound l (ps.take i) s) (ps.getD i default) := by
 unfold pRound
 rw [take_snoc hi, List.foldl_append]
 rfl
def PrI (l : List Fd) (ps : List AS) (z s : AS) : Prop := sub z s ∧ sub s (kept l ps z)
theorem pr_zero (l : List Fd) (ps : List AS) (z : AS) : PrI l ps z z := ⟨sub_refl z, kept_ge⟩
theorem pr_next {l : List Fd} {ps : List AS} {z s : AS} (h : PrI l ps z s) : PrI l ps z (pRound l ps s) := ⟨sub_trans h.1 pRound_ge, pRound_le (kept_fix l ps z) (fun _ h => h) h.2⟩
theorem pr_end {l : List Fd} {ps : List AS} {z s : AS} (h : PrI l ps z s) (he : pRound l ps s = s) : s = kept l ps z := sub_antisymm h.2 (kept_le (pRound_fix he) h.1)
theorem pr_less {l : List Fd} {ps : List AS} {s : AS} (h : ¬ pRound l ps s = s) : 4294967296 - (pRound l ps s).toNat < 4294967296 - s.toNat := by
 have h1 := sub_lt (pRound_ge (l := l) (ps := ps) (s := s)) (fun e => h e.symm)
 have h2 := (pRound l ps s).isLt
 omega
theorem pStep_v (l : List Fd) (s p : AS) : bitV .or .u32 (asI s) (bitV .and .u32 (asI (clo l (s &&& p))) (asI p)) = asI (pStep l s p) := by rw [bAnd, bOr]; rfl
theorem pr_res {l : List Fd} {ps : List AS} {f : Fd} {s : AS} (h : PrI l ps f.lhs s) (he : pRound l ps s = s) : decide (sub f.rhs s) = presB l ps f := by
 rw [pr_end h he]
 rfl
theorem kept_idem {l : List Fd} {ps : List AS} {z : AS} : kept l ps (kept l ps z) = kept l ps z := sub_antisymm (kept_le (kept_fix l ps z) (sub_refl _)) kept_ge
theorem kept_mono {l : List Fd} {ps : List AS} {a b : AS} (h : sub a b) : sub (kept l ps a) (kept l ps b) := kept_le (kept_fix l ps b) (sub_trans h kept_ge)
theorem kept_all {l m : List Fd} {ps : List AS} (h : ∀ f ∈ m, presB l ps f = true) (s : AS) : sub (clo m s) (kept l ps s) := by
 refine clo_least (fun f hf hfs => ?_) kept_ge
 have h1 : sub f.rhs (kept l ps f.lhs) := of_decide_eq_true (h f hf)
 refine sub_trans h1 ?_
 have := kept_mono (l := l) (ps := ps) hfs
 rw [kept_idem] at this
 exact this
theorem allP_iff {l : List Fd} {ps : List AS} : allP l ps = true ↔ ∀ f ∈ l, presB l ps f = true := by
 unfold allP
 rw [List.all_eq_true]
 constructor
 · intro h f hf
   obtain ⟨j, hj, rfl⟩ := List.getElem_of_mem hf
   have := h j (List.mem_range.2 hj)
   rwa [List.getD_eq_getElem?_getD, List.getElem?_eq_getElem hj] at this
 · intro h j hj
   have hj := List.mem_range.1 hj
   rw [List.getD_eq_getElem?_getD, List.getElem?_eq_getElem hj]
   exact h _ (List.getElem_mem hj)
def sbfT (n : Int) (l : List Fd) (i : Nat) : List AS := ((subsC (fullI n)).take i).filter fun s => !violB l s
theorem sbfT_len (n : Int) (l : List Fd) (i : Nat) : (sbfT n l i).length ≤ 4294967296 := by
 unfold sbfT
 refine Nat.le_trans (List.length_filter_le _ _) ?_
 have := subsC_len (fullI n)
 rw [List.length_take]
 omega
theorem sbfT_t {n : Int} {l : List Fd} {i : Nat} (hi : i < (subsC (fullI n)).length) (h : (!violB l ((subsC (fullI n)).getD i default)) = true) : sbfT n l (i + 1) = sbfT n l i ++ [(subsC (fullI n)).getD i default] := by
 unfold sbfT
 rw [take_snoc hi, List.filter_append]
 simp only [List.filter_cons, h, if_true, List.filter_nil]
theorem sbfT_f {n : Int} {l : List Fd} {i : Nat} (hi : i < (subsC (fullI n)).length) (h : (!violB l ((subsC (fullI n)).getD i default)) = false) : sbfT n l (i + 1) = sbfT n l i := by
 unfold sbfT
 rw [take_snoc hi, List.filter_append]
 simp only [List.filter_cons, h, Bool.false_eq_true, if_false, List.filter_nil, List.append_nil]
theorem sbfT_end {n : Int} {l : List Fd} (h : errS n l 8 = 0) : sbfT n l (subsC (fullI n)).length = subF n l := by
 unfold sbfT
 rw [List.take_length, subF_t h]
end Go.Hx
end
section
namespace Go.Hx
def apartL (l : List Fd) : Prop := ∀ f ∈ l, ∀ i, i < 32 → f.rhs.getLsbD i = true → f.lhs.getLsbD i = false
section
variable {n : Int} {l : List Fd}
end
end Go.Hx
end
section
namespace Go.Hx
open Go.Proofs
theorem mem_orL {ps : List AS} {k : AS} (h : k ∈ ps) : sub k (orL ps) := sub_bit.2 fun i hi hb => by
 unfold orL
 rw [orL_bit, Bool.or_eq_true]
 exact .inr (List.any_eq_true.2 ⟨k, h, hb⟩)
section
variable {n : Int} {l : List Fd}
end
end Go.Hx
end
section
namespace Go.Hx
theorem mem_maxl {L : List AS} {x : AS} : x ∈ maxl L ↔ x ∈ L ∧ ∀ y ∈ L, sub x y → x = y := by
 unfold maxl keepS worseF
 rw [List.mem_filter, mem_ord, Bool.not_eq_true', List.any_eq_false]
 constructor
 · rintro ⟨h1, h2⟩
   refine ⟨h1, fun y hy hs => Classical.byContradiction fun hne => h2 y (mem_ord.2 hy) ?_⟩
   rw [Bool.and_eq_true, decide_eq_true_iff]
   exact ⟨hne, decide_eq_true hs⟩
 · rintro ⟨h1, h2⟩
   refine ⟨h1, fun y hy hc => ?_⟩
   rw [Bool.and_eq_true, decide_eq_true_iff] at hc
   exact hc.1 (h2 y (mem_ord.1 hy) (of_decide_eq_true hc.2))
theorem under_maxl {L : List AS} : ∀ (n : Nat) (x : AS), x ∈ L → 4294967296 - x.toNat ≤ n → ∃ y ∈ maxl L, sub x y
 | 0, x, _, h => by have := x.isLt; omega
 | n + 1, x, hx, h => by
  by_cases hm : x ∈ maxl L
  · exact ⟨x, hm, sub_refl x⟩
  · have : ∃ y ∈ L, sub x y ∧ x ≠ y := by
     apply Classical.byContradiction
     intro hn
     exact hm (mem_maxl.2 ⟨hx, fun y hy hs => Classical.byContradiction fun hne => hn ⟨y, hy, hs, hne⟩⟩)
    obtain ⟨y, hy, hs, hne⟩ := this
    have hlt := sub_lt hs hne
    have hyl := y.isLt
    obtain ⟨z, hz, hyz⟩ := under_maxl n y hy (by omega)
    exact ⟨z, hz, sub_trans hs hyz⟩
theorem in_maxl {L : List AS} {x : AS} (h : x ∈ L) : ∃ y ∈ maxl L, sub x y := under_maxl 4294967296 x h (by omega)
section
variable {n : Int} {l : List Fd}
theorem orL_in {L : List AS} {t : AS} (h : ∀ x ∈ L, sub x t) : sub (orL L) t := sub_bit.2 fun i hi hb => by
 unfold orL at hb
 rw [orL_bit, Bool.or_eq_true] at hb
 rcases hb with hb | hb
 · simp at hb
 · obtain ⟨x, hx, hxb⟩ := List.any_eq_true.1 hb
   exact sub_bit.1 (h x hx) i hi hxb
end
end Go.Hx
end
section
namespace Go.Hx
def HasR (E : Int → Int → Prop) (R : Rw → Prop) (s : AS) : Prop := ∃ r, R r ∧ ∀ i : Nat, i < r.length → hasI s (i : Int) = true → E (r.getD i default) (i : Int)
section
variable {N : Nat} {p m : List Fd} {E : Int → Int → Prop} {R : Rw → Prop}
theorem hasI_sub {s t : AS} (h : sub s t) {i : Nat} (hi : hasI s (i : Int) = true) : hasI t (i : Int) = true := by
 by_cases hl : i < 32
 · rw [hasI_nat hl] at hi ⊢
   exact sub_bit.1 h i hl hi
 · rw [hasI_f (by omega)] at hi
   cases hi
theorem mdl_step (h : Mdl N p m E R) {a b : Rw} (ha : R a) (hb : R b) {f : Fd} (hf : f ∈ p) {s : AS} (hs : AgE E a b s) : AgE E a b (clStep1 s f) := by
 unfold clStep1
 split
 · rename_i hl
   have h2 := h.fd hf ha hb fun i hi hh => hs i hi (hasI_sub hl hh)
   intro i hi hh
   rw [hasI_or, Bool.or_eq_true] at hh
   rcases hh with hh | hh
   · exact hs i hi hh
   · exact h2 i hi hh
 · exact hs
theorem mdl_stepL (h : Mdl N p m E R) {a b : Rw} (ha : R a) (hb : R b) : ∀ {q : List Fd} {s : AS}, (∀ f, f ∈ q → f ∈ p) → AgE E a b s → AgE E a b (clStep q s)
 | [], s, _, hs => hs
 | f :: q, s, hq, hs => mdl_stepL h ha hb (q := q) (s := clStep1 s f) (fun g hg => hq g (by simp [hg])) (mdl_step h ha hb (hq f (by simp)) hs)
theorem mdl_clF (h : Mdl N p m E R) {a b : Rw} (ha : R a) (hb : R b) : ∀ {k : Nat} {s : AS}, AgE E a b s → AgE E a b (clF p k s)
 | 0, s, hs => hs
 | k + 1, s, hs => by
  unfold clF
  split
  · exact hs
  · exact mdl_clF h ha hb (mdl_stepL h ha hb (fun _ hf => hf) hs)
theorem mdl_clo (h : Mdl N p m E R) {a b : Rw} (ha : R a) (hb : R b) {s : AS} (hs : AgE E a b s) : AgE E a b (clo p s) := mdl_clF h ha hb hs
theorem HasR.mono {s t : AS} (h : HasR E R t) (hs : sub s t) : HasR E R s := by
 obtain ⟨r, h1, h2⟩ := h
 exact ⟨r, h1, fun i hi hh => h2 i hi (hasI_sub hs hh)⟩
theorem row_more (h : Mdl N p m E R) {r : Rw} (hr : R r) {z q c : AS} (hz : ∀ i : Nat, i < r.length → hasI z (i : Int) = true → E (r.getD i default) (i : Int)) (hq : HasR E R q) (hc1 : sub c (clo p (z &&& q))) (hc2 : sub c q) :
 ∀ i : Nat, i < r.length → hasI (z ||| c) (i : Int) = true → E (r.getD i default) (i : Int) := by
 obtain ⟨b, hb, hbq⟩ := hq
 have hl : r.length = b.length := (h.len hr).trans (h.len hb).symm
 have hag : AgE E r b (z &&& q) := fun i hi hh => h.trans (hz i hi (hasI_sub sub_and_r hh)) (h.symm (hbq i (by omega) (hasI_sub sub_and_l hh)))
 have hcl := mdl_clo h hr hb hag
 intro i hi hh
 rw [hasI_or, Bool.or_eq_true] at hh
 rcases hh with hh | hh
 · exact hz i hi hh
 · exact h.trans (hcl i hi (hasI_sub hc1 hh)) (hbq i (by omega) (hasI_sub hc2 hh))
end
section
variable {n : Int} {p m : List Fd} {ps : List AS}
theorem start_has (h0 : 0 ≤ n) {E : Int → Int → Prop} {R : Rw → Prop} (h : Mdl n.toNat p m E R) (hl : ∀ r, r ∈ stRows n ps → R r) {q : AS} (hq : q ∈ ps) : HasR E R q := by
 obtain ⟨i, hi, e⟩ := mem_at hq
 refine ⟨stR n i q, hl _ ?_, fun c hc hh => ?_⟩
 · unfold stRows
   exact List.mem_map.2 ⟨i, List.mem_range.2 hi, by rw [e]⟩
 · rw [stR_len] at hc
   rw [stR_at hc]
   unfold stV
   rw [if_pos hh]
   exact h.refl _
theorem first_at {c : Nat} (hc : c < n.toNat) : (firstZ n).getD c default = (c : Int) := by
 unfold firstZ
 rw [List.getD_eq_getElem?_getD, List.getElem?_map, List.getElem?_range hc]
 rfl
theorem full_has {i : Nat} (h16 : n ≤ 16) (hi : i < n.toNat) : hasI (fullI n) (i : Int) = true := by
 rw [hasI_nat (by omega)]
 unfold fullI
 rw [Nat.min_eq_left (by omega), fullS_bit _ _ (by omega)]
 exact decide_eq_true hi
theorem has_first (h16 : n ≤ 16) {E : Int → Int → Prop} {R : Rw → Prop} (h : Mdl n.toNat p m E R) (hf : HasR E R (fullI n)) : R (firstZ n) := by
 obtain ⟨r, hr, hh⟩ := hf
 have hl := h.len hr
 refine h.cong hr (by rw [firstZ_len, hl]) fun i hi => ?_
 rw [first_at (by omega)]
 exact hh i hi (full_has h16 (by omega))
theorem kept_row {E : Int → Int → Prop} {R : Rw → Prop} (hm : Mdl n.toNat p m E R) (hq : ∀ q, q ∈ ps → HasR E R q) {r : Rw} (hr : R r) : ∀ (f : Nat) {z : AS}, (∀ i : Nat, i < r.length → hasI z (i : Int) = true → E (r.getD i default) (i : Int)) → ∀ i : Nat, i < r.length → hasI (folF p ps f z) (i : Int) = true → E (r.getD i default) (i : Int)
 | 0, z, hz => hz
 | f + 1, z, hz => by
  unfold folF
  split
  · exact hz
  · rename_i q hqf
    refine kept_row hm hq hr f (row_more hm hr hz (hq q (List.mem_of_find?_eq_some hqf)) (c := moreS p q z) ?_ ?_)
    · exact sub_trans sub_and_r sub_and_l
    · exact sub_trans sub_and_r sub_and_r
theorem pres_lossless (h0 : 0 ≤ n) (h16 : n ≤ 16) {k : AS} (hk : k ∈ ps) (hkey : clo p k = fullI n) (hpr : allP p ps = true) : LR n.toNat p m (stRows n ps) (firstZ n) := fun E R hm hl => by
 have hq : ∀ q, q ∈ ps → HasR E R q := fun q hq => start_has h0 hm hl hq
 obtain ⟨r, hr, hrk⟩ := hq k hk
 refine has_first h16 hm ⟨r, hr, fun i hi hh => ?_⟩
 have h1 : sub (clo p k) (kept p ps k) := kept_all (allP_iff.1 hpr) k
 rw [hkey] at h1
 exact kept_row hm hq hr 4294967297 hrk i hi (hasI_sub h1 hh)
end
end Go.Hx
end
section
namespace Go.Hx
theorem full_bitZ {n : Int} (h : n ≤ 32) {a : Nat} (ha : a < 32) : (fullI n).getLsbD a = decide (a < n.toNat) := by
 unfold fullI
 rw [fullS_bit _ a ha, Nat.min_eq_left (by omega)]
theorem subsC_sub {p x : AS} (h : x ∈ subsC p) : sub x p := by
 unfold subsC at h
 split at h
 · cases h
 · exact mem_subsL.1 h
theorem violB_none {l : List Fd} {p : AS} (h : ∀ x, sub x p → vioP l p x = false) : violB l p = false := by
 have e : violX l p = none := by
  unfold violX
  rw [List.find?_eq_none]
  intro x hx
  rw [h x (subsC_sub hx)]
  decide
 unfold violB
 rw [e]
 rfl
theorem vioP_iff {l : List Fd} {p x : AS} : vioP l p x = true ↔ clo l x &&& p ≠ x ∧ clo l x &&& p ≠ p := by
 unfold vioP
 rw [Bool.and_eq_true, decide_eq_true_iff, decide_eq_true_iff]
theorem mem_subF {n : Int} {l : List Fd} (h : errS n l 8 = 0) {s : AS} (h1 : sub s (fullI n)) (h2 : violB l s = false) : s ∈ subF n l := by
 rw [subF_t h, List.mem_filter]
 refine ⟨?_, by rw [h2]; rfl⟩
 have := full_bsz (n := n) (m := 8) (errS_ok h).2 (by omega)
 rw [subsC_f (by omega)]
 exact mem_subsL.2 h1
theorem key_form {n : Int} {l : List Fd} {k : AS} (hn : n ≤ 32) (h : isKey n l k = true) : violB l k = false := by
 unfold isKey at h
 rw [Bool.and_eq_true, List.all_eq_true] at h
 obtain ⟨h1, h2⟩ := h
 obtain ⟨hv, hs, hc⟩ := of_decide_eq_true h1
 refine violB_none fun x hx => ?_
 cases hq : vioP l k x with
 | false => rfl
 | true =>
  exfalso
  obtain ⟨g1, _⟩ := vioP_iff.1 hq
  apply g1
  refine sub_antisymm (sub_bit.2 fun a ha hb => ?_) (sub_and_both clo_ge hx)
  rw [BitVec.getLsbD_and, Bool.and_eq_true] at hb
  cases hxa : x.getLsbD a with
  | true => rfl
  | false =>
   exfalso
   have ha2 : a < n.toNat := by
    have := sub_bit.1 hs a ha hb.2
    rw [full_bitZ hn ha] at this
    exact of_decide_eq_true this
   have hno : sub x (noA k a) := sub_bit.2 fun i hi hbi => by
    unfold noA
    have h1 : ((1 : AS) <<< a).getLsbD i = decide (i = a) := bit_one a i hi
    rw [BitVec.getLsbD_and, BitVec.getLsbD_not, sub_bit.1 hx i hi hbi, h1, decide_eq_true hi]
    by_cases hia : i = a
    · subst hia; rw [hxa] at hbi; cases hbi
    · rw [decide_eq_false hia]; rfl
   have hk : sub k (clo l (noA k a)) := sub_bit.2 fun i hi hbi => by
    by_cases hia : i = a
    · subst hia
      exact sub_bit.1 (clo_mono hno) i hi hb.1
    · refine sub_bit.1 clo_ge i hi ?_
      unfold noA
      have h1 : ((1 : AS) <<< a).getLsbD i = decide (i = a) := bit_one a i hi
      rw [BitVec.getLsbD_and, BitVec.getLsbD_not, hbi, h1, decide_eq_true hi, decide_eq_false hia]
      rfl
   have hns : sub (noA k a) (fullI n) := sub_trans sub_and_r hs
   have hcl : clo l (noA k a) = fullI n := sub_antisymm (clo_full hv hns) (by
    rw [← hc]
    exact clo_least clo_isClosed hk)
   have := h2 a (List.mem_range.2 ha2)
   rw [hb.2, show skey n l (noA k a) = true from decide_eq_true ⟨hv, hns, hcl⟩] at this
   cases this
theorem sub_one {y : AS} {i : Nat} (h : sub y ((1 : AS) <<< i)) : y = 0 ∨ y = (1 : AS) <<< i := by
 by_cases h0 : y = 0
 · exact .inl h0
 · refine .inr (sub_antisymm h (sub_bit.2 fun a ha hb => ?_))
   have h1 : ((1 : AS) <<< i).getLsbD a = decide (a = i) := bit_one i a ha
   rw [h1] at hb
   have hai := of_decide_eq_true hb
   subst hai
   cases hy : y.getLsbD a with
   | true => rfl
   | false =>
    exfalso
    apply h0
    apply BitVec.eq_of_getLsbD_eq
    intro j hj
    cases hyj : y.getLsbD j with
    | false => simp
    | true =>
     have := sub_bit.1 h j hj hyj
     have h2 : ((1 : AS) <<< a).getLsbD j = decide (j = a) := bit_one a j hj
     rw [h2] at this
     have := of_decide_eq_true this
     subst this
     rw [hy] at hyj
     cases hyj
theorem one_form {l : List Fd} {i : Nat} : violB l ((1 : AS) <<< i) = false := by
 refine violB_none fun x hx => ?_
 cases hq : vioP l ((1 : AS) <<< i) x with
 | false => rfl
 | true =>
  exfalso
  obtain ⟨g1, g2⟩ := vioP_iff.1 hq
  rcases sub_one (y := clo l x &&& ((1 : AS) <<< i)) sub_and_l with e | e
  · have hx0 : sub x 0 := by rw [← e]; exact sub_and_both clo_ge hx
    exact g1 (sub_antisymm (by rw [e]; exact sub_bit.2 fun a ha hb => by simp at hb) (by rw [e]; exact hx0))
  · exact g2 e
end Go.Hx
end
section
namespace Go.Hx
def lvE (n : Int) (ps : List AS) : Int := if n < 0 ∨ 8 < n then 7 else if 64 < ps.length then 3 else if ps.length = 0 ∨ ¬ orL ps = fullI n then 1 else 0
section
variable {n : Int} {ps : List AS} {p m : List Fd}
theorem lvE_0 (h : n < 0 ∨ 8 < n) : lvE n ps = 7 := if_pos h
theorem lvE_1 (h : ¬ (n < 0 ∨ 8 < n)) (h2 : 64 < ps.length) : lvE n ps = 3 := by unfold lvE; rw [if_neg h, if_pos h2]
theorem lvE_2 (h : ¬ (n < 0 ∨ 8 < n)) (h2 : ¬ 64 < ps.length) (h3 : ps.length = 0 ∨ ¬ orL ps = fullI n) : lvE n ps = 1 := by unfold lvE; rw [if_neg h, if_neg h2, if_pos h3]
theorem lvE_3 (h : ¬ (n < 0 ∨ 8 < n)) (h2 : ¬ 64 < ps.length) (h3 : ¬ (ps.length = 0 ∨ ¬ orL ps = fullI n)) : lvE n ps = 0 := by unfold lvE; rw [if_neg h, if_neg h2, if_neg h3]
theorem lvE_ok (h : lvE n ps = 0) : 0 ≤ n ∧ n ≤ 8 ∧ ps.length ≤ 64 ∧ 0 < ps.length ∧ orL ps = fullI n := by
 unfold lvE at h
 split at h
 · exact absurd h (by decide)
 · split at h
   · exact absurd h (by decide)
   · split at h
     · exact absurd h (by decide)
     · rename_i h1 h2 h3
       refine ⟨by omega, by omega, by omega, by omega, ?_⟩
       apply Classical.byContradiction
       intro e
       exact h3 (.inr e)
def lsT (n : Int) (ps : List AS) (p m : List Fd) : List St × (Int × List Rw) × Int := chaseE FU n (canon (stRows n ps)) p m
def lsC (n : Int) (ps : List AS) (p m : List Fd) : Int := if lvE n ps = 0 then (if bErr n p m = 0 then (lsT n ps p m).2.2 else bErr n p m) else lvE n ps
def lsB (n : Int) (ps : List AS) (p m : List Fd) : Bool := decide (lsC n ps p m = 0) && (lsT n ps p m).2.1.2.any fun r => decide (r = firstZ n)
theorem lsC_2 (h : lvE n ps = 0) (h2 : bErr n p m = 0) : lsC n ps p m = (lsT n ps p m).2.2 := (if_pos h).trans (if_pos h2)
theorem lsC_ok (h : lsC n ps p m = 0) : lvE n ps = 0 ∧ bErr n p m = 0 := by
 unfold lsC at h
 split at h
 · rename_i e
   split at h
   · rename_i e2; exact ⟨e, e2⟩
   · rename_i e2; exact absurd h e2
 · rename_i e; exact absurd h e
theorem lv_sub (h : lvE n ps = 0) {q : AS} (hq : q ∈ ps) : sub q (fullI n) := by
 rw [← (lvE_ok h).2.2.2.2]
 exact mem_orL hq
theorem lv_start (h : lvE n ps = 0) : startE n ps = (n, canon (stRows n ps), 0) := by
 obtain ⟨h0, h8, h64, _⟩ := lvE_ok h
 exact startE_3 (by omega) (by omega) fun j hj => (p_shr h0 (by omega)).1 (lv_sub h (mem_getD hj))
theorem ls_told (h : lvE n ps = 0) (hb : bErr n p [] = 0) : lsC n ps p [] = 0 ∧ (lsB n ps p [] = true ↔ LR n.toNat p [] (stRows n ps) (firstZ n)) := by
 obtain ⟨h0, h8, h64, _⟩ := lvE_ok h
 rcases chase_fst (m := []) h64 hb with ⟨_, e⟩ | ⟨sts, lend, e, h1, _⟩
 · exact absurd rfl e
 · have ec : lsC n ps p [] = 0 := by rw [lsC_2 h hb]; unfold lsT; rw [e]
   refine ⟨ec, ?_⟩
   unfold lsB lsT
   rw [ec, e, decide_eq_true rfl, Bool.true_and]
   show (lend.any fun r => decide (r = firstZ n)) = true ↔ _
   rw [any_first, decide_eq_true_iff, h1]
theorem bErr_nil (h : vErr n p = 0) : bErr n p [] = 0 := (bErr_3 (m := []) h (by simp) fun j hj => absurd hj (Nat.not_lt_zero j)).symm
theorem few_sets (h0 : 0 ≤ n) (h6 : n ≤ 6) (hd : ps.Nodup) (hs : ∀ q, q ∈ ps → sub q (fullI n)) : ps.length ≤ 64 := by
 have hlt : ∀ q, q ∈ ps → q.toNat < 64 := fun q hq => by
  have h1 := sub_le (hs q hq)
  have h2 : ∀ k, k ≤ 6 → (fullS k).toNat < 64 := by decide +kernel
  have h3 := h2 (min n.toNat 32) (by omega)
  have h4 : (fullI n).toNat < 64 := h3
  omega
 have hn : (ps.map BitVec.toNat).Nodup := by
  refine List.Pairwise.map BitVec.toNat (fun a b hab e => ?_) hd
  exact hab (BitVec.eq_of_toNat_eq e)
 have := hn.length_le_of_subset (l₂ := List.range 64) fun x hx => by
  obtain ⟨q, hq, rfl⟩ := List.mem_map.1 hx
  exact List.mem_range.2 (hlt q hq)
 simpa using this
theorem lv_of (h0 : 0 ≤ n) (h6 : n ≤ 6) (hd : ps.Nodup) (hs : ∀ q, q ∈ ps → sub q (fullI n)) (hne : 0 < ps.length) (ho : sub (fullI n) (orL ps)) : lvE n ps = 0 := by
 have h1 := few_sets h0 h6 hd hs
 have h2 : orL ps = fullI n := sub_antisymm (orL_in hs) ho
 exact lvE_3 (by omega) (by omega) fun e => by
  rcases e with e | e
  · omega
  · exact e h2
def bckB (n : Int) (p : List Fd) (ps : List AS) : Bool := lsB n ps p [] && !ps.any (violB p)
end
end Go.Hx
end
