/- A part of the proof: lemmas for the theorem of this claim, merged by a program of ours out of Ch4, X5. -/
import Derived.Test.YtididbpiikfaiaaDoorE20
import Derived.Test.YtididbpiikfaiaaDoorE21
set_option linter.all false
section
namespace Go.Hx
def mixT (a b : Rw) (s : AS) (i : Nat) : Rw := (List.range b.length).map fun (j : Nat) => if j < i ∧ hasI s (j : Int) = true then a.getD j default else b.getD j default
theorem mixT_len (a b : Rw) (s : AS) (i : Nat) : (mixT a b s i).length = b.length := by unfold mixT; simp
theorem mixT_at {a b : Rw} {s : AS} {i k : Nat} (hk : k < b.length) : (mixT a b s i).getD k default = if k < i ∧ hasI s (k : Int) = true then a.getD k default else b.getD k default := by
  unfold mixT
  rw [List.getD_eq_getElem?_getD, List.getElem?_map, List.getElem?_range hk]
  rfl
theorem mixT_zero (a b : Rw) (s : AS) : b = mixT a b s 0 := list_eq (mixT_len a b s 0).symm fun j hj => by
  rw [mixT_at hj, if_neg (by omega)]
theorem mixT_end (a b : Rw) (s : AS) : mixT a b s b.length = mixZ a b s := by
  unfold mixT mixZ
  refine List.map_congr_left fun k hk => ?_
  have := List.mem_range.1 hk
  by_cases h : hasI s (k : Int) = true
  · rw [if_pos ⟨this, h⟩, if_pos h]
  · rw [if_neg (fun e => h e.2), if_neg h]
theorem mixT_f {a b : Rw} {s : AS} {i : Nat} (h : ¬ hasI s (i : Int) = true) : mixT a b s i = mixT a b s (i + 1) := by
  unfold mixT
  refine List.map_congr_left fun k hk => ?_
  by_cases h2 : k < i ∧ hasI s (k : Int) = true
  · rw [if_pos h2, if_pos ⟨by omega, h2.2⟩]
  · rw [if_neg h2, if_neg fun e => h2 ⟨by rcases Nat.lt_or_eq_of_le (Nat.le_of_lt_succ e.1) with h3 | h3
                                          · exact h3
                                          · subst h3; exact absurd e.2 h, e.2⟩]
theorem mixT_t {a b : Rw} {s : AS} {i : Nat} (hi : i < b.length) (h : hasI s (i : Int) = true) : (mixT a b s i).set i (a.getD i default) = mixT a b s (i + 1) := by
  refine list_eq (by rw [List.length_set, mixT_len, mixT_len]) fun j hj => ?_
  rw [List.length_set, mixT_len] at hj
  rw [mixT_at hj]
  by_cases e : j = i
  · subst e
    rw [getD_set_eq (by rw [mixT_len]; exact hj), if_pos ⟨by omega, h⟩]
  · rw [getD_set_ne' e, mixT_at hj]
    by_cases h2 : j < i ∧ hasI s (j : Int) = true
    · rw [if_pos h2, if_pos ⟨by omega, h2.2⟩]
    · rw [if_neg h2, if_neg fun e2 => h2 ⟨by omega, e2.2⟩]
theorem mixZ_len (a b : Rw) (s : AS) : (mixZ a b s).length = b.length := by unfold mixZ; simp
theorem co_mix_t {a b : Rw} {s : AS} {i n : Nat} {k : Nat} (hi : i < b.length) (h : hasI s (i : Int) = true) (hn : n = b.length := by rfl) (hk : k = i := by rfl) :
    CoO (.arr true 1 3 n (setEl (lf zC (mixT a b s i)) k 0 [.raw (.int .i64 (a.getD i default))])) (.arr true 1 3 n (lf zC (mixT a b s (i + 1)))) := by
  rw [← mixT_t hi h]
  exact co_set1 (fun h => h) (hn.trans (mixT_len a b s i).symm) hk (by rw [mixT_len]; exact hi) rfl
theorem co_mix_f {a b : Rw} {s : AS} {i n : Nat} (h : ¬ hasI s (i : Int) = true) : CoO (.arr true 1 3 n (lf zC (mixT a b s i))) (.arr true 1 3 n (lf zC (mixT a b s (i + 1)))) := by
  rw [← mixT_f h]
  exact CoO.refl _
theorem co_zl {n : Nat} {r : Rw} (h : r.length = n) : CoC (.one (.sl n 1 false (lf zC r))) (pZ r) := by subst h; exact CoC.refl _
end Go.Hx
end
section
namespace Go.Hx
open Go.Proofs
set_option maxRecDepth 100000
theorem good17 : goodFn Tryd.prog 17 := ⟨Tryd.f17, Tryd.func17, by kernel_rfl, by kernel_rfl⟩
theorem clone17 (n : Nat) (c : Bool) (f : Nat → Nat → PV) (hn : n ≤ 17592186044416) :
    HFun Tryd.prog 17 [.one (.p (.sl n 1 c f))] [] (.v (.one (.ref 0 n))) [(0, .arr true 1 3 n f)] [] := by
  refine hfun_of (nt := 8) Trydok Tryd.func17 rfl rfl (Nat.le_of_ble_eq_true rfl) rfl ?_; refine hw_seq ?_; refine hw_region (E := TrydE) Trydok ?_; refine rg_quiet true rfl rfl rfl rfl rfl trivial ?_; refine rg_nil ?_
  show HW _ _ _ _ _
  refine hw_join (ι := Bool) (fun c => ⟨[(0, some (oneP (.sl n 1 c f)))], []⟩) (fun _ => True) ?_ fun c _ => ?_
  · rcases Nat.eq_zero_or_pos n with hz | h0
    · subst hz
      refine hw_exact' 0 rfl fun ad cap hcap => ?_
      refine hw_seq ?_; refine hw_region (E := TrydE) Trydok ?_; (iterate 2 refine rg_quiet true rfl rfl rfl rfl rfl trivial ?_); refine rg_nil ?_; show HW _ _ _ _ _; refine hw_cond ad.isNone rfl (fun hc => ?_) (fun hc => ?_)
      · refine hw_seq ?_
        refine hw_region (E := TrydE) Trydok ?_; refine rg_quiet true rfl rfl rfl rfl rfl trivial ?_; refine rg_nil ?_; show HW _ _ _ _ _
        refine hw_adopt 2 0 true 1 3 f (by decide) rfl (CoP.sl rfl (.inr rfl) (fun h => h) fun i j hi _ => absurd hi (Nat.not_lt_zero i)) (.inr rfl) rfl ?_; refine hw_ret ?_; refine ⟨.inr rfl, ?_⟩
        exact ⟨_, _, rfl, trivial, CoR.refl _, ⟨⟨_, rfl, CoO.refl _⟩, trivial⟩⟩
      · refine hw_skip ?_
        exact ⟨false, trivial, ⟨⟨_, rfl, CoP.raw_sl hcap⟩, trivial⟩, trivial⟩
    · refine hw_seq ?_
      refine hw_region (E := TrydE) Trydok ?_; refine rg_quiet true rfl rfl rfl rfl rfl trivial ?_; refine rg_quiet true rfl rfl rfl rfl rfl h0 ?_; refine rg_nil ?_; show HW _ _ _ _ _
      refine hw_cond false rfl (fun hc => by cases hc) (fun hc => ?_); refine hw_skip ?_
      exact ⟨c, trivial, ⟨⟨_, rfl, CoR.refl _⟩, trivial⟩, trivial⟩
  · refine hw_seq ?_
    refine hw_region (E := TrydE) Trydok ?_; refine rg_make 0 rfl rfl rfl rfl rfl rfl trivial ?_; refine rg_quiet true rfl rfl rfl rfl rfl trivial ?_
    refine rg_app 0 true rfl rfl rfl rfl rfl rfl ⟨trivial, rfl, rfl, rfl, .inl rfl, by show 0 + n ≤ 9223372036854775807; omega, by show (0 + n) * 8 ≤ 140737488355328; omega, fun _ => .inl rfl⟩ ?_
    refine rg_quiet true rfl rfl rfl rfl rfl trivial ?_; refine rg_nil ?_; show HW _ _ _ _ _; refine hw_ret ?_; refine ⟨.inr rfl, ?_⟩
    refine ⟨_, _, rfl, trivial, CoR.of_eq (by show HR.v (.one (.ref 0 (0 + n))) = _; rw [Nat.zero_add]), ⟨⟨_, rfl, ?_⟩, trivial⟩⟩
    exact ⟨fun h => h, rfl, rfl, (Nat.zero_add n).symm, fun i j _ _ => CoP.of_eq (by simp [appF])⟩
theorem cloneP17 (n : Nat) (c : Bool) (f : Nat → Nat → PV) (hn : n ≤ 17592186044416) : HPure Tryd.prog 17 [.one (.sl n 1 c f)] (.v (.one (.sl n 1 false f))) :=
  HFun.pure (args := [.one (.sl n 1 c f)]) (l := [.one (.ref 0 n)]) (clone17 n c f hn) rfl ⟨rfl, trivial⟩
theorem good48 : goodFn Tryd.prog 48 := ⟨Tryd.f48, Tryd.func48, by kernel_rfl, by kernel_rfl⟩
theorem cCopied (n : Int) (l : List Rw) (hl : ∀ i, i < l.length → (l.getD i default).length ≤ 17592186044416) (hl2 : l.length ≤ 5864062014805) : HFun Tryd.prog 48 [.agg [.p (.raw (.int .i64 n)), .p (rl l)]] [] (.v (.agg [.p (.raw (.int .i64 n)), .ref 901 l.length])) [(901, .arr true 1 25 l.length (lf rC l))] [] := by
  refine hfun_of (nt := 25) Trydok Tryd.func48 rfl rfl (Nat.le_of_ble_eq_true rfl) rfl ?_; refine hw_seq ?_; refine hw_region (E := TrydE) Trydok ?_; refine rm 0 rfl rfl rfl rfl rfl rfl ?_; refine rm 1 rfl rfl rfl rfl rfl rfl ?_
  refine rg_nil ?_; show HW _ _ _ _ _; refine hw_seq ?_; refine hw_region (E := TrydE) Trydok ?_; (iterate 3 refine rq rfl rfl rfl rfl rfl ?_); refine rm 2 rfl rfl rfl rfl rfl rfl ?_; refine rs rfl rfl rfl rfl rfl ?_
  refine rg_nil ?_; refine hw_adopt_cell 2 1 901 true 1 25 (lf rC l) (by decide) rfl rfl (CoP.sl rfl (.inr rfl) (fun h => h) (fun i j hi _ => absurd hi (Nat.not_lt_zero i))) (.inr rfl) rfl rfl ?_; show HW _ _ _ _ _
  (iterate 2 refine hw_seq ?_); refine hw_region (E := TrydE) Trydok ?_; (iterate 4 refine rq rfl rfl rfl rfl rfl ?_); refine rg_nil ?_; show HW _ _ _ _ _; refine hw_block ?_
  refine hw_loopK (ι := Nat) ⟨[(2, some _), (3, some _), (10, some _), (11, some _)], [(1, some _)]⟩ ⟨⟨⟨_, rfl, CoR.refl _⟩, ⟨_, rfl, CoR.refl _⟩, ⟨_, rfl, CoR.refl _⟩, ⟨_, rfl, CoR.refl _⟩, trivial⟩, ⟨⟨_, rfl, CoO.refl _⟩, trivial⟩⟩ (fun i => ⟨[(12, some (vI i))], [(2, some (.box [.p (.raw (.int .i64 n)), .ref 901 i])), (901, some (.arr true 1 25 i (lf rC l)))]⟩) (fun i => i ≤ l.length) (fun i => l.length - i) (0) (Nat.zero_le _) ⟨⟨⟨_, rfl, (by first | exact CoR.refl _ | exact coi (by omega) | exact cob (by simp_all))⟩, trivial⟩, ⟨⟨_, rfl, CoO.refl _⟩, ⟨_, rfl, CoO.refl _⟩, trivial⟩⟩ ?_
  rintro i hi
  refine hw_seq ?_; refine hw_region (E := TrydE) Trydok ?_; refine rq rfl rfl rfl rfl rfl ?_; refine rg_nil ?_; show HW _ _ _ _ _; refine hw_seq ?_; refine hw_cond _ rfl (fun r0 => ?_) (fun r0 => ?_)
  · skip
    have h0 := r0
    have h0 := of_decide_eq_true h0
    try simp only [Int.toNat_natCast] at h0
    refine hw_skip ?_; show HW _ _ _ _ _; refine hw_seq ?_; refine hw_block ?_; refine hw_seq ?_; refine hw_region (E := TrydE) Trydok ?_; (iterate 3 refine rq rfl rfl rfl rfl rfl ?_); refine rg_nil ?_; show HW _ _ _ _ _
    refine hw_draw (E := TrydE) Trydok Trydmixed [0, 1, 2, 3, 4, 5, 6, 7] ?_; (iterate 3 refine rq rfl rfl rfl rfl rfl ?_)
    refine rc rfl rfl rfl rfl rfl rfl good17 (cloneP17 (l.getD i default).length false (lf zC (l.getD i default)) (hl i (by omega))) (CoL.refl _) rfl rfl ?_; refine rm 3 rfl rfl rfl rfl rfl rfl ?_
    refine ra 4 true rfl rfl rfl rfl rfl rfl ?_; refine rq rfl rfl rfl rfl rfl ?_; refine rs rfl rfl rfl rfl rfl ?_; refine rg_nil ?_; refine ⟨by kernel_rfl, ?_⟩; show HW _ _ _ _ _; refine hw_region (E := TrydE) Trydok ?_
    (iterate 2 refine rq rfl rfl rfl rfl rfl ?_); refine rg_nil ?_; refine ⟨i + 1, ?_, ?_, ?_⟩
    · show i + 1 ≤ _; omega
    · first | omega | (dsimp only; omega)
    · exact ⟨⟨⟨_, rfl, (by first | exact CoR.refl _ | exact coi (by omega) | exact cob (by simp_all))⟩, ⟨_, rfl, CoR.refl _⟩, ⟨_, rfl, CoR.refl _⟩, ⟨_, rfl, CoR.refl _⟩, ⟨_, rfl, CoR.refl _⟩, trivial⟩, ⟨⟨_, rfl, CoO.refl _⟩, ⟨_, rfl, (co_push (fun h => h) (fun j hj => by obtain rfl : j = 0 := (by omega); exact CoP.refl _))⟩, ⟨_, rfl, CoO.refl _⟩, trivial⟩⟩
  · skip
    have h0 := r0
    have h0 := of_decide_eq_false h0
    try simp only [Int.toNat_natCast] at h0
    obtain rfl : i = l.length := by omega
    refine hw_exit ?_; show HW _ _ _ _ _; refine hw_seq ?_; refine hw_region (E := TrydE) Trydok ?_; refine rq rfl rfl rfl rfl rfl ?_; refine rs rfl rfl rfl rfl rfl ?_; refine rg_nil ?_; show HW _ _ _ _ _; refine hw_ret ?_
    refine ⟨.inr rfl, ?_⟩
    exact ⟨_, _, rfl, (by (repeat' apply And.intro) <;> first | trivial | exact Nat.le_of_ble_eq_true rfl), CoR.refl _, ⟨⟨_, rfl, CoO.refl _⟩, trivial⟩⟩
theorem cCopiedP (n : Int) (l : List Rw) (hl : ∀ i, i < l.length → (l.getD i default).length ≤ 17592186044416) (hl2 : l.length ≤ 5864062014805) : HPure Tryd.prog 48 [pT n l] (prOf [pT n l]) :=
  HFun.pure (args := [pT n l]) (l := [.agg [.p (.raw (.int .i64 n)), .ref 901 l.length]]) (cCopied n l hl hl2) rfl ⟨⟨trivial, rfl, trivial⟩, trivial⟩
theorem good14 : goodFn Tryd.prog 14 := ⟨Tryd.f14, Tryd.func14, by kernel_rfl, by kernel_rfl⟩
theorem cLCopied (n : Int) (l : List Rw) (hl : ∀ i, i < l.length → (l.getD i default).length ≤ 17592186044416) (hl2 : l.length ≤ 5864062014805) : HFun Tryd.prog 14 [.agg [.p (.raw (.int .i64 n)), .p (rl l)]] [] (.v (.agg [.p (.raw (.int .i64 n)), .ref 901 l.length])) [(901, .arr true 1 25 l.length (lf rC l))] [] := by
  refine hfun_of (nt := 25) Trydok Tryd.func14 rfl rfl (Nat.le_of_ble_eq_true rfl) rfl ?_; refine hw_seq ?_; refine hw_region (E := TrydE) Trydok ?_; refine rm 0 rfl rfl rfl rfl rfl rfl ?_; refine rm 1 rfl rfl rfl rfl rfl rfl ?_
  refine rg_nil ?_; show HW _ _ _ _ _; refine hw_seq ?_; refine hw_region (E := TrydE) Trydok ?_; (iterate 3 refine rq rfl rfl rfl rfl rfl ?_); refine rm 2 rfl rfl rfl rfl rfl rfl ?_; refine rs rfl rfl rfl rfl rfl ?_
  refine rg_nil ?_; refine hw_adopt_cell 2 1 901 true 1 25 (lf rC l) (by decide) rfl rfl (CoP.sl rfl (.inr rfl) (fun h => h) (fun i j hi _ => absurd hi (Nat.not_lt_zero i))) (.inr rfl) rfl rfl ?_; show HW _ _ _ _ _
  (iterate 2 refine hw_seq ?_); refine hw_region (E := TrydE) Trydok ?_; (iterate 4 refine rq rfl rfl rfl rfl rfl ?_); refine rg_nil ?_; show HW _ _ _ _ _; refine hw_block ?_
  refine hw_loopK (ι := Nat) ⟨[(2, some _), (3, some _), (10, some _), (11, some _)], [(1, some _)]⟩ ⟨⟨⟨_, rfl, CoR.refl _⟩, ⟨_, rfl, CoR.refl _⟩, ⟨_, rfl, CoR.refl _⟩, ⟨_, rfl, CoR.refl _⟩, trivial⟩, ⟨⟨_, rfl, CoO.refl _⟩, trivial⟩⟩ (fun i => ⟨[(12, some (vI i))], [(2, some (.box [.p (.raw (.int .i64 n)), .ref 901 i])), (901, some (.arr true 1 25 i (lf rC l)))]⟩) (fun i => i ≤ l.length) (fun i => l.length - i) (0) (Nat.zero_le _) ⟨⟨⟨_, rfl, (by first | exact CoR.refl _ | exact coi (by omega) | exact cob (by simp_all))⟩, trivial⟩, ⟨⟨_, rfl, CoO.refl _⟩, ⟨_, rfl, CoO.refl _⟩, trivial⟩⟩ ?_
  rintro i hi
  refine hw_seq ?_; refine hw_region (E := TrydE) Trydok ?_; refine rq rfl rfl rfl rfl rfl ?_; refine rg_nil ?_; show HW _ _ _ _ _; refine hw_seq ?_; refine hw_cond _ rfl (fun r0 => ?_) (fun r0 => ?_)
  · skip
    have h0 := r0
    have h0 := of_decide_eq_true h0
    try simp only [Int.toNat_natCast] at h0
    refine hw_skip ?_; show HW _ _ _ _ _; refine hw_seq ?_; refine hw_block ?_; refine hw_seq ?_; refine hw_region (E := TrydE) Trydok ?_; (iterate 3 refine rq rfl rfl rfl rfl rfl ?_); refine rg_nil ?_; show HW _ _ _ _ _
    refine hw_draw (E := TrydE) Trydok Trydmixed [0, 1, 2, 3, 4, 5, 6, 7] ?_; (iterate 3 refine rq rfl rfl rfl rfl rfl ?_)
    refine rc rfl rfl rfl rfl rfl rfl good17 (cloneP17 (l.getD i default).length false (lf zC (l.getD i default)) (hl i (by omega))) (CoL.refl _) rfl rfl ?_; refine rm 3 rfl rfl rfl rfl rfl rfl ?_
    refine ra 4 true rfl rfl rfl rfl rfl rfl ?_; refine rq rfl rfl rfl rfl rfl ?_; refine rs rfl rfl rfl rfl rfl ?_; refine rg_nil ?_; refine ⟨by kernel_rfl, ?_⟩; show HW _ _ _ _ _; refine hw_region (E := TrydE) Trydok ?_
    (iterate 2 refine rq rfl rfl rfl rfl rfl ?_); refine rg_nil ?_; refine ⟨i + 1, ?_, ?_, ?_⟩
    · show i + 1 ≤ _; omega
    · first | omega | (dsimp only; omega)
    · exact ⟨⟨⟨_, rfl, (by first | exact CoR.refl _ | exact coi (by omega) | exact cob (by simp_all))⟩, ⟨_, rfl, CoR.refl _⟩, ⟨_, rfl, CoR.refl _⟩, ⟨_, rfl, CoR.refl _⟩, ⟨_, rfl, CoR.refl _⟩, trivial⟩, ⟨⟨_, rfl, CoO.refl _⟩, ⟨_, rfl, (co_push (fun h => h) (fun j hj => by obtain rfl : j = 0 := (by omega); exact CoP.refl _))⟩, ⟨_, rfl, CoO.refl _⟩, trivial⟩⟩
  · skip
    have h0 := r0
    have h0 := of_decide_eq_false h0
    try simp only [Int.toNat_natCast] at h0
    obtain rfl : i = l.length := by omega
    refine hw_exit ?_; show HW _ _ _ _ _; refine hw_seq ?_; refine hw_region (E := TrydE) Trydok ?_; refine rq rfl rfl rfl rfl rfl ?_; refine rs rfl rfl rfl rfl rfl ?_; refine rg_nil ?_; show HW _ _ _ _ _; refine hw_ret ?_
    refine ⟨.inr rfl, ?_⟩
    exact ⟨_, _, rfl, (by (repeat' apply And.intro) <;> first | trivial | exact Nat.le_of_ble_eq_true rfl), CoR.refl _, ⟨⟨_, rfl, CoO.refl _⟩, trivial⟩⟩
theorem cLCopiedP (n : Int) (l : List Rw) (hl : ∀ i, i < l.length → (l.getD i default).length ≤ 17592186044416) (hl2 : l.length ≤ 5864062014805) : HPure Tryd.prog 14 [pT n l] (prOf [pT n l]) :=
  HFun.pure (args := [pT n l]) (l := [.agg [.p (.raw (.int .i64 n)), .ref 901 l.length]]) (cLCopied n l hl hl2) rfl ⟨⟨trivial, rfl, trivial⟩, trivial⟩
theorem good66 : goodFn Tryd.prog 66 := ⟨Tryd.f66, Tryd.func66, by kernel_rfl, by kernel_rfl⟩
theorem cMixed (a b : Rw) (s : AS) (h : a.length = b.length) (h16 : b.length ≤ 16) : HPure Tryd.prog 66 [pZ a, pZ b, pA s] (prOf [pZ (mixZ a b s)]) := by
  refine hpure_of (nt := 30) Trydok Tryd.func66 rfl rfl (Nat.le_of_ble_eq_true rfl) ?_; refine hw_seq ?_; refine hw_region (E := TrydE) Trydok ?_; refine rq rfl rfl rfl rfl rfl ?_; refine rg_nil ?_; show HW _ _ _ _ _
  refine hw_seq ?_; refine hw_region (E := TrydE) Trydok ?_; refine rq rfl rfl rfl rfl rfl ?_; refine rg_fcall rfl rfl rfl rfl rfl rfl good17 (clone17 b.length false (lf zC b) (by omega)) (CoHCL.refl _) trivial rfl rfl ?_
  refine rq rfl rfl rfl rfl rfl ?_; refine rg_nil ?_; show HW _ _ _ _ _; (iterate 2 refine hw_seq ?_); refine hw_region (E := TrydE) Trydok ?_; (iterate 3 refine rq rfl rfl rfl rfl rfl ?_); refine rg_nil ?_; show HW _ _ _ _ _
  refine hw_block ?_
  refine hw_loopK (ι := Nat) ⟨[(0, some _), (2, some _), (7, some _), (12, some _)], []⟩ ⟨⟨⟨_, rfl, CoR.refl _⟩, ⟨_, rfl, CoR.refl _⟩, ⟨_, rfl, CoR.refl _⟩, ⟨_, rfl, CoR.refl _⟩, trivial⟩, trivial⟩ (fun i => ⟨[(13, some (vI i))], [(0, some (.arr true 1 3 b.length (lf zC (mixT a b s i))))]⟩) (fun i => i ≤ b.length) (fun i => b.length - i) (0) (Nat.zero_le _) ⟨⟨⟨_, rfl, (by first | exact CoR.refl _ | exact coi (by omega) | exact cob (by simp_all))⟩, trivial⟩, ⟨⟨_, rfl, (CoO.of_eq (by rw [← mixT_zero]))⟩, trivial⟩⟩ ?_
  rintro i hi
  refine hw_seq ?_; refine hw_region (E := TrydE) Trydok ?_; refine rq rfl rfl rfl rfl rfl ?_; refine rg_nil ?_; show HW _ _ _ _ _; refine hw_seq ?_; refine hw_cond _ rfl (fun r0 => ?_) (fun r0 => ?_)
  · skip
    have h0 := r0
    have h0 := of_decide_eq_true h0
    try simp only [Int.toNat_natCast] at h0
    refine hw_skip ?_; show HW _ _ _ _ _; refine hw_seq ?_; refine hw_block ?_; refine hw_seq ?_; refine hw_region (E := TrydE) Trydok ?_; (iterate 2 refine rq rfl rfl rfl rfl rfl ?_); refine rg_nil ?_; show HW _ _ _ _ _
    refine hw_seq ?_; refine hw_region (E := TrydE) Trydok ?_; (iterate 5 refine rq rfl rfl rfl rfl rfl ?_); refine rg_nil ?_; show HW _ _ _ _ _; refine hw_cond _ rfl (fun r1 => ?_) (fun r1 => ?_)
    · skip
      have h1 := r1
      have h1 := of_decide_eq_true h1
      try simp only [Int.toNat_natCast] at h1
      refine hw_region (E := TrydE) Trydok ?_; (iterate 7 refine rq rfl rfl rfl rfl rfl ?_); refine rs rfl rfl rfl rfl rfl ?_; refine rg_nil ?_; show HW _ _ _ _ _; refine hw_region (E := TrydE) Trydok ?_
      (iterate 2 refine rq rfl rfl rfl rfl rfl ?_); refine rg_nil ?_; refine ⟨i + 1, ?_, ?_, ?_⟩
      · show i + 1 ≤ _; omega
      · first | omega | (dsimp only; omega)
      · exact ⟨⟨⟨_, rfl, (by first | exact CoR.refl _ | exact coi (by omega) | exact cob (by simp_all))⟩, ⟨_, rfl, CoR.refl _⟩, ⟨_, rfl, CoR.refl _⟩, ⟨_, rfl, CoR.refl _⟩, ⟨_, rfl, CoR.refl _⟩, trivial⟩, ⟨⟨_, rfl, (by first | exact co_mix_t (by omega) ((has_n (by omega)).1 (by assumption)) | exact co_mix_f (fun e => absurd ((has_n (by omega)).2 e) (by assumption)))⟩, trivial⟩⟩
    · skip
      have h1 := r1
      have h1 := of_decide_eq_false h1
      try simp only [Int.toNat_natCast] at h1
      refine hw_skip ?_; show HW _ _ _ _ _; refine hw_region (E := TrydE) Trydok ?_; (iterate 2 refine rq rfl rfl rfl rfl rfl ?_); refine rg_nil ?_; refine ⟨i + 1, ?_, ?_, ?_⟩
      · show i + 1 ≤ _; omega
      · first | omega | (dsimp only; omega)
      · exact ⟨⟨⟨_, rfl, (by first | exact CoR.refl _ | exact coi (by omega) | exact cob (by simp_all))⟩, ⟨_, rfl, CoR.refl _⟩, ⟨_, rfl, CoR.refl _⟩, ⟨_, rfl, CoR.refl _⟩, ⟨_, rfl, CoR.refl _⟩, trivial⟩, ⟨⟨_, rfl, (by first | exact co_mix_t (by omega) ((has_n (by omega)).1 (by assumption)) | exact co_mix_f (fun e => absurd ((has_n (by omega)).2 e) (by assumption)))⟩, trivial⟩⟩
  · skip
    have h0 := r0
    have h0 := of_decide_eq_false h0
    try simp only [Int.toNat_natCast] at h0
    obtain rfl : i = b.length := by omega
    refine hw_exit ?_; show HW _ _ _ _ _; refine hw_seq ?_; refine hw_freeze 7 rfl rfl rfl ?_; refine hw_region (E := TrydE) Trydok ?_; (iterate 2 refine rq rfl rfl rfl rfl rfl ?_); refine rg_nil ?_; show HW _ _ _ _ _
    refine hw_ret ?_; refine ⟨.inr rfl, ?_⟩
    exact ⟨_, _, _, _, rfl, (by (repeat' apply And.intro) <;> first | trivial | exact Nat.le_of_ble_eq_true rfl | rfl), rfl, (by (repeat' apply And.intro) <;> first | trivial | exact Nat.le_of_ble_eq_true rfl | rfl), ⟨by rw [mixT_end]; exact co_zl (mixZ_len a b s), trivial⟩⟩
end Go.Hx
end
