/- A part of the proof: lemmas for the theorem of this claim, merged by a program of ours out of Cs34, V33, Cs35, V34, Cs36. -/
import Derived.Test.YtgeliioenkmfhaaDoorT32
set_option linter.all false
section
namespace Go.Hx
def mgR (l : List Fd) (s : AS) : AS := (l.filter fun f => decide (f.lhs = s)).foldl (fun a f => a ||| f.rhs) 0
def mgF (l : List Fd) (s : AS) : Fd := ⟨s, mgR l s⟩
def mrgS (l : List Fd) : List Fd := (ord (l.map Fd.lhs)).map (mgF l)
theorem mgR_t {l : List Fd} {s : AS} {i : Nat} (hi : i < l.length) (h : (l.getD i default).lhs = s) : mgR (l.take (i + 1)) s = mgR (l.take i) s ||| (l.getD i default).rhs := by
  unfold mgR
  rw [take_snoc hi, List.filter_append, List.foldl_append]
  simp only [List.filter_cons, h, decide_true, if_true, List.filter_nil, List.foldl_cons, List.foldl_nil]
theorem mgR_f {l : List Fd} {s : AS} {i : Nat} (hi : i < l.length) (h : ¬ (l.getD i default).lhs = s) : mgR (l.take (i + 1)) s = mgR (l.take i) s := by
  unfold mgR
  rw [take_snoc hi, List.filter_append, List.foldl_append]
  simp only [List.filter_cons, h, decide_false, Bool.false_eq_true, if_false, List.filter_nil, List.foldl_nil]
theorem mg_t {l : List Fd} {s : AS} {i : Nat} (hi : i < l.length) (h : asI (l.getD i default).lhs = asI s) : PV.raw (.int .u32 (bitV .or .u32 (asI (mgR (l.take i) s)) (asI (l.getD i default).rhs))) = asC (mgR (l.take (i + 1)) s) := by
  rw [bOr, mgR_t hi (asI_inj.1 h)]
  rfl
theorem mg_f {l : List Fd} {s : AS} {i : Nat} (hi : i < l.length) (h : ¬ asI (l.getD i default).lhs = asI s) : asC (mgR (l.take i) s) = asC (mgR (l.take (i + 1)) s) := by
  rw [mgR_f hi (fun e => h (congrArg asI e))]
theorem mrgS_len (l : List Fd) : (mrgS l).length ≤ l.length := by
  unfold mrgS
  rw [List.length_map]
  exact Nat.le_trans (ord_len _) (by rw [List.length_map]; exact Nat.le_refl _)
end Go.Hx
end
section
namespace Go.Hx
open Go.Proofs
set_option maxRecDepth 100000
theorem good101 : goodFn Tryd.prog 101 := ⟨Tryd.f101, Tryd.func101, by kernel_rfl, by kernel_rfl⟩
theorem cRMerge (l : List Fd) (hl : l.length ≤ 16777216) : HPure Tryd.prog 101 [pP (fdl l)] (prOf [pP (fdl (mrgS l))]) := by
  refine hpure_of (nt := 66) Trydok Tryd.func101 rfl rfl (Nat.le_of_ble_eq_true rfl) ?_; refine hw_seq ?_; refine hw_region (E := TrydE) Trydok ?_; refine rq rfl rfl rfl rfl rfl ?_; refine rg_nil ?_; show HW _ _ _ _ _
  refine hw_seq ?_
  have hol := ord_len (l.map Fd.lhs)
  rw [List.length_map] at hol
  refine hw_region (E := TrydE) Trydok ?_; refine rq rfl rfl rfl rfl rfl ?_; refine rg_nil ?_; show HW _ _ _ _ _; (iterate 2 refine hw_seq ?_); refine hw_region (E := TrydE) Trydok ?_; refine rq rfl rfl rfl rfl rfl ?_
  refine rg_nil ?_; show HW _ _ _ _ _; refine hw_block ?_; refine hw_adopt 3 900 true 1 30 (lf sC []) (by decide) rfl (CoP.sl rfl (.inr rfl) (fun h => h) (fun i j hi _ => absurd hi (Nat.not_lt_zero i))) (.inr rfl) rfl ?_
  refine hw_loopK (ι := Nat) ⟨[(0, some _)], []⟩ ⟨⟨⟨_, rfl, CoR.refl _⟩, trivial⟩, trivial⟩ (fun i => ⟨[(3, some (.v (.one (.ref 900 ((l.take i).map Fd.lhs).length)))), (4, some (vI i))], [(900, some (.arr true 1 30 ((l.take i).map Fd.lhs).length (lf sC ((l.take i).map Fd.lhs))))]⟩) (fun i => i ≤ l.length) (fun i => l.length - i) (0) (Nat.zero_le _) ⟨⟨⟨_, rfl, (by first | exact CoR.refl _ | exact coi (by omega) | exact cob (by simp_all))⟩, ⟨_, rfl, (by first | exact CoR.refl _ | exact coi (by omega) | exact cob (by simp_all))⟩, trivial⟩, ⟨⟨_, rfl, CoO.refl _⟩, trivial⟩⟩ ?_
  rintro i hi
  have hlen : ((l.take i).map Fd.lhs).length ≤ i := by rw [List.length_map, List.length_take]; omega
  (iterate 2 refine hw_seq ?_); refine hw_region (E := TrydE) Trydok ?_; (iterate 4 refine rq rfl rfl rfl rfl rfl ?_); refine rg_nil ?_; show HW _ _ _ _ _; refine hw_cond _ rfl (fun r0 => ?_) (fun r0 => ?_)
  · skip
    have h0 := r0
    have h0 := of_decide_eq_true h0
    try simp only [Int.toNat_natCast] at h0
    refine hw_skip ?_; show HW _ _ _ _ _; refine hw_seq ?_; refine hw_block ?_; refine hw_region (E := TrydE) Trydok ?_; (iterate 6 refine rq rfl rfl rfl rfl rfl ?_); refine rm 0 rfl rfl rfl rfl rfl rfl ?_
    refine ra 1 true rfl rfl rfl rfl rfl rfl ?_; refine rq rfl rfl rfl rfl rfl ?_; refine rg_nil ?_; show HW _ _ _ _ _; refine hw_region (E := TrydE) Trydok ?_; (iterate 3 refine rq rfl rfl rfl rfl rfl ?_); refine rg_nil ?_
    refine ⟨i + 1, ?_, ?_, ?_⟩
    · show i + 1 ≤ _; omega
    · first | omega | (dsimp only; omega)
    · exact ⟨⟨⟨_, rfl, (ref_app (mapT (by omega)))⟩, ⟨_, rfl, (by first | exact CoR.refl _ | exact coi (by omega) | exact cob (by simp_all))⟩, ⟨_, rfl, CoR.refl _⟩, trivial⟩, ⟨⟨_, rfl, (arr_app1 (mapT (by omega)) (CoP.refl _))⟩, trivial⟩⟩
  · skip
    have h0 := r0
    have h0 := of_decide_eq_false h0
    try simp only [Int.toNat_natCast] at h0
    obtain rfl : i = l.length := by omega
    rw [show (l.take l.length).map Fd.lhs = l.map Fd.lhs by rw [List.take_length]]
    refine hw_exit ?_; show HW _ _ _ _ _; refine hw_seq ?_; refine hw_freeze 3 rfl rfl rfl ?_; refine hw_region (E := TrydE) Trydok ?_; refine rq rfl rfl rfl rfl rfl ?_
    refine rc rfl rfl rfl rfl rfl rfl good63 (cROrder (l.map Fd.lhs) (by rw [List.length_map]; omega)) (CoL.refl _) rfl rfl ?_; refine rq rfl rfl rfl rfl rfl ?_; refine rg_nil ?_; show HW _ _ _ _ _; refine hw_seq ?_
    refine hw_region (E := TrydE) Trydok ?_; refine rq rfl rfl rfl rfl rfl ?_; refine rg_nil ?_; show HW _ _ _ _ _; (iterate 2 refine hw_seq ?_); refine hw_region (E := TrydE) Trydok ?_; refine rq rfl rfl rfl rfl rfl ?_
    refine rg_nil ?_; show HW _ _ _ _ _; refine hw_block ?_; refine hw_adopt 5 901 true 2 32 (lf Fd.c []) (by decide) rfl (CoP.sl rfl (.inr rfl) (fun h => h) (fun i j hi _ => absurd hi (Nat.not_lt_zero i))) (.inr rfl) rfl ?_
    refine hw_loopK (ι := Nat) ⟨[(0, some _), (3, some _)], []⟩ ⟨⟨⟨_, rfl, CoR.refl _⟩, ⟨_, rfl, CoR.refl _⟩, trivial⟩, trivial⟩ (fun k => ⟨[(5, some (.v (.one (.ref 901 (((ord (l.map Fd.lhs)).take k).map (mgF l)).length)))), (6, some (vI k))], [(901, some (.arr true 2 32 (((ord (l.map Fd.lhs)).take k).map (mgF l)).length (lf Fd.c (((ord (l.map Fd.lhs)).take k).map (mgF l)))))]⟩) (fun k => k ≤ (ord (l.map Fd.lhs)).length) (fun k => (ord (l.map Fd.lhs)).length - k) (0) (Nat.zero_le _) ⟨⟨⟨_, rfl, (by first | exact CoR.refl _ | exact coi (by omega) | exact cob (by simp_all))⟩, ⟨_, rfl, (by first | exact CoR.refl _ | exact coi (by omega) | exact cob (by simp_all))⟩, trivial⟩, ⟨⟨_, rfl, CoO.refl _⟩, trivial⟩⟩ ?_
    rintro k hk
    have hlen2 : (((ord (l.map Fd.lhs)).take k).map (mgF l)).length ≤ k := by rw [List.length_map, List.length_take]; omega
    (iterate 2 refine hw_seq ?_); refine hw_region (E := TrydE) Trydok ?_; (iterate 4 refine rq rfl rfl rfl rfl rfl ?_); refine rg_nil ?_; show HW _ _ _ _ _; refine hw_cond _ rfl (fun r1 => ?_) (fun r1 => ?_)
    · skip
      have h1 := r1
      have h1 := of_decide_eq_true h1
      try simp only [Int.toNat_natCast] at h1
      refine hw_skip ?_; show HW _ _ _ _ _; refine hw_seq ?_; refine hw_block ?_; refine hw_seq ?_; refine hw_region (E := TrydE) Trydok ?_; (iterate 5 refine rq rfl rfl rfl rfl rfl ?_); refine rm 2 rfl rfl rfl rfl rfl rfl ?_
      refine rs rfl rfl rfl rfl rfl ?_; refine rg_nil ?_; show HW _ _ _ _ _; (iterate 2 refine hw_seq ?_); refine hw_region (E := TrydE) Trydok ?_; refine rq rfl rfl rfl rfl rfl ?_; refine rg_nil ?_; show HW _ _ _ _ _
      refine hw_block ?_
      refine hw_loopK (ι := Nat) ⟨[(0, some _), (3, some _), (5, some _), (6, some _), (7, some _)], [(901, some _)]⟩ ⟨⟨⟨_, rfl, CoR.refl _⟩, ⟨_, rfl, CoR.refl _⟩, ⟨_, rfl, CoR.refl _⟩, ⟨_, rfl, CoR.refl _⟩, ⟨_, rfl, CoR.refl _⟩, trivial⟩, ⟨⟨_, rfl, CoO.refl _⟩, trivial⟩⟩ (fun i => ⟨[(8, some (vI i))], [(2, some (.box [.p (asC ((ord (l.map Fd.lhs)).getD k default)), .p (asC (mgR (l.take i) ((ord (l.map Fd.lhs)).getD k default)))]))]⟩) (fun i => i ≤ l.length) (fun i => l.length - i) (0) (Nat.zero_le _) ⟨⟨⟨_, rfl, (by first | exact CoR.refl _ | exact coi (by omega) | exact cob (by simp_all))⟩, trivial⟩, ⟨⟨_, rfl, ⟨CoP.refl _, CoP.refl _, trivial⟩⟩, trivial⟩⟩ ?_
      rintro i hi
      (iterate 2 refine hw_seq ?_); refine hw_region (E := TrydE) Trydok ?_; (iterate 4 refine rq rfl rfl rfl rfl rfl ?_); refine rg_nil ?_; show HW _ _ _ _ _; refine hw_cond _ rfl (fun r2 => ?_) (fun r2 => ?_)
      · skip
        have h2 := r2
        have h2 := of_decide_eq_true h2
        try simp only [Int.toNat_natCast] at h2
        refine hw_skip ?_; show HW _ _ _ _ _; refine hw_seq ?_; refine hw_block ?_; refine hw_seq ?_; refine hw_draw (E := TrydE) Trydok Trydmixed [0, 1, 2, 3, 4, 5, 6, 7, 8, 9] ?_; (iterate 10 refine rq rfl rfl rfl rfl rfl ?_)
        refine rg_nil ?_; refine ⟨by kernel_rfl, ?_⟩; show HW _ _ _ _ _; refine hw_cond _ rfl (fun r3 => ?_) (fun r3 => ?_)
        · skip
          have h3 := r3
          have h3 := of_decide_eq_true h3
          try simp only [Int.toNat_natCast] at h3
          refine hw_draw (E := TrydE) Trydok Trydmixed [0, 1, 2, 3, 4, 5, 6, 7, 8, 9] ?_; (iterate 9 refine rq rfl rfl rfl rfl rfl ?_); refine rs rfl rfl rfl rfl rfl ?_; refine rg_nil ?_; refine ⟨by kernel_rfl, ?_⟩
          show HW _ _ _ _ _; refine hw_region (E := TrydE) Trydok ?_; (iterate 3 refine rq rfl rfl rfl rfl rfl ?_); refine rg_nil ?_; refine ⟨i + 1, ?_, ?_, ?_⟩
          · show i + 1 ≤ _; omega
          · first | omega | (dsimp only; omega)
          · exact ⟨⟨⟨_, rfl, (by first | exact CoR.refl _ | exact coi (by omega) | exact cob (by simp_all))⟩, ⟨_, rfl, CoR.refl _⟩, ⟨_, rfl, CoR.refl _⟩, ⟨_, rfl, CoR.refl _⟩, ⟨_, rfl, CoR.refl _⟩, ⟨_, rfl, CoR.refl _⟩, trivial⟩, ⟨⟨_, rfl, (by first | exact ⟨CoP.refl _, CoP.of_eq (mg_t (by omega) (by assumption)), trivial⟩ | exact ⟨CoP.refl _, CoP.of_eq (mg_f (by omega) (by assumption)), trivial⟩)⟩, ⟨_, rfl, CoO.refl _⟩, trivial⟩⟩
        · skip
          have h3 := r3
          have h3 := of_decide_eq_false h3
          try simp only [Int.toNat_natCast] at h3
          refine hw_skip ?_; show HW _ _ _ _ _; refine hw_region (E := TrydE) Trydok ?_; (iterate 3 refine rq rfl rfl rfl rfl rfl ?_); refine rg_nil ?_; refine ⟨i + 1, ?_, ?_, ?_⟩
          · show i + 1 ≤ _; omega
          · first | omega | (dsimp only; omega)
          · exact ⟨⟨⟨_, rfl, (by first | exact CoR.refl _ | exact coi (by omega) | exact cob (by simp_all))⟩, ⟨_, rfl, CoR.refl _⟩, ⟨_, rfl, CoR.refl _⟩, ⟨_, rfl, CoR.refl _⟩, ⟨_, rfl, CoR.refl _⟩, ⟨_, rfl, CoR.refl _⟩, trivial⟩, ⟨⟨_, rfl, (by first | exact ⟨CoP.refl _, CoP.of_eq (mg_t (by omega) (by assumption)), trivial⟩ | exact ⟨CoP.refl _, CoP.of_eq (mg_f (by omega) (by assumption)), trivial⟩)⟩, ⟨_, rfl, CoO.refl _⟩, trivial⟩⟩
      · skip
        have h2 := r2
        have h2 := of_decide_eq_false h2
        try simp only [Int.toNat_natCast] at h2
        obtain rfl : i = l.length := by omega
        refine hw_exit ?_; show HW _ _ _ _ _; refine hw_region (E := TrydE) Trydok ?_; (iterate 2 refine rq rfl rfl rfl rfl rfl ?_); refine rm 3 rfl rfl rfl rfl rfl rfl ?_; refine ra 4 true rfl rfl rfl rfl rfl rfl ?_
        refine rq rfl rfl rfl rfl rfl ?_; refine rg_nil ?_; show HW _ _ _ _ _; refine hw_region (E := TrydE) Trydok ?_; (iterate 3 refine rq rfl rfl rfl rfl rfl ?_); refine rg_nil ?_; refine ⟨k + 1, ?_, ?_, ?_⟩
        · show k + 1 ≤ _; omega
        · first | omega | (dsimp only; omega)
        · exact ⟨⟨⟨_, rfl, (ref_app (mapT (by omega)))⟩, ⟨_, rfl, (by first | exact CoR.refl _ | exact coi (by omega) | exact cob (by simp_all))⟩, ⟨_, rfl, CoR.refl _⟩, ⟨_, rfl, CoR.refl _⟩, trivial⟩, ⟨⟨_, rfl, (arr_app2 (mapT (by omega)) (CoP.refl _) (CoP.of_eq (by rw [List.take_length]; rfl)))⟩, trivial⟩⟩
    · skip
      have h1 := r1
      have h1 := of_decide_eq_false h1
      try simp only [Int.toNat_natCast] at h1
      obtain rfl : k = (ord (l.map Fd.lhs)).length := by omega
      refine hw_exit ?_; show HW _ _ _ _ _; refine hw_seq ?_; refine hw_region (E := TrydE) Trydok ?_; (iterate 2 refine rq rfl rfl rfl rfl rfl ?_); refine rg_nil ?_; refine hw_freeze 2 rfl rfl rfl ?_; show HW _ _ _ _ _
      refine hw_ret ?_; refine ⟨.inr rfl, ?_⟩
      exact ⟨_, _, _, _, rfl, (by (repeat' apply And.intro) <;> first | trivial | exact Nat.le_of_ble_eq_true rfl | rfl), rfl, (by (repeat' apply And.intro) <;> first | trivial | exact Nat.le_of_ble_eq_true rfl | rfl), ⟨CoC.one (CoP.of_eq (by rw [List.take_length]; rfl)), trivial⟩⟩
end Go.Hx
end
section
namespace Go.Hx
open Go.Proofs
def rhsIn (t : AS) (l : List Fd) : Prop := ∀ x ∈ l, sub x.rhs t
theorem redA_inR {t : AS} {i a : Nat} {l : List Fd} (h : rhsIn t l) : rhsIn t (redA i l a) := by
  unfold redA
  split
  · intro x hx
    rcases List.mem_or_eq_of_mem_set hx with hx | rfl
    · exact h x hx
    · by_cases hi : i < l.length
      · exact h (l.getD i default) (by rw [List.getD_eq_getElem?_getD, List.getElem?_eq_getElem hi]; exact List.getElem_mem hi)
      · rw [List.set_eq_of_length_le (by omega)] at hx
        exact h _ hx
  · exact h
theorem foldA_inR {t : AS} {i : Nat} : ∀ (m : List Nat) (l : List Fd), rhsIn t l → rhsIn t (m.foldl (redA i) l)
  | [], _, h => h
  | a :: m, l, h => foldA_inR m _ (redA_inR h)
theorem redT_inR {t : AS} {l : List Fd} (h : rhsIn t l) : ∀ i, rhsIn t (redT l i)
  | 0 => h
  | i + 1 => by rw [redT_succ]; exact foldA_inR _ _ (redT_inR h i)
theorem spl_inR {t : AS} {l : List Fd} (h : rhsIn t l) : rhsIn t (spl l) := by
  intro x hx
  have hx := mem_onceL.1 hx
  unfold splitL at hx
  obtain ⟨ys, hys, hxy⟩ := List.mem_flatten.1 hx
  obtain ⟨f, hf, rfl⟩ := List.mem_map.1 hys
  unfold splitA at hxy
  obtain ⟨a, ha, rfl⟩ := List.mem_map.1 hxy
  refine sub_bit.2 fun i hi hb => ?_
  have h1 : ((1 : AS) <<< a).getLsbD i = decide (i = a) := bit_one a i hi
  rw [show (⟨f.lhs, (1 : AS) <<< a⟩ : Fd).rhs.getLsbD i = decide (i = a) from h1, decide_eq_true_iff] at hb
  subst hb
  have hm := (mem_membs.1 ha).2
  rw [BitVec.getLsbD_and, Bool.and_eq_true] at hm
  exact sub_bit.1 (h f hf) i hi hm.1
theorem minS_inR {n : Int} {l : List Fd} (h : vErr n l = 0) : rhsIn (fullI n) (minS l) := fun x hx => by
  have h1 := mem_dropR _ _ _ hx
  exact redT_inR (spl_inR fun f hf => (inU_all h f hf).2) _ x (mem_onceL.1 h1)
theorem fold_rhs {t : AS} : ∀ (l : List Fd) (s : AS), sub s t → (∀ f ∈ l, sub f.rhs t) → sub (l.foldl (fun a f => a ||| f.rhs) s) t
  | [], s, h, _ => h
  | f :: l, s, h, hl => fold_rhs l _ (or_sub h (hl f (List.mem_cons_self ..))) fun g hg => hl g (List.mem_cons_of_mem _ hg)
theorem mrg_in {t : AS} {l : List Fd} (h1 : lhsIn t l) (h2 : rhsIn t l) : ∀ f ∈ mrgS l, sub f.lhs t ∧ sub f.rhs t := fun f hf => by
  unfold mrgS at hf
  obtain ⟨s, hs, rfl⟩ := List.mem_map.1 hf
  obtain ⟨g, hg, rfl⟩ := List.mem_map.1 (mem_ord.1 hs)
  exact ⟨h1 g hg, fold_rhs _ _ (sub_zero t) fun x hx => h2 x (List.mem_filter.1 hx).1⟩
def canE (n : Int) (l : List Fd) : List Fd := mrgS (minE n l)
theorem canE_len (n : Int) (l : List Fd) : (canE n l).length ≤ 2048 := Nat.le_trans (mrgS_len _) (minE_len n l)
def pt (f : Fd) : AS := f.lhs ||| f.rhs
section
variable {n : Int} {l : List Fd}
theorem pt_in (h : vErr n l = 0) {i : Nat} (hi : i < (canE n l).length) : sub (pt ((canE n l).getD i default)) (fullI n) := by
  have hm : (canE n l).getD i default ∈ canE n l := by
    rw [List.getD_eq_getElem?_getD, List.getElem?_eq_getElem hi]
    exact List.getElem_mem hi
  generalize (canE n l).getD i default = f at *
  unfold canE at hm
  rw [minE_t h] at hm
  obtain ⟨h1, h2⟩ := mrg_in (minS_in h) (minS_inR h) f hm
  exact or_sub h1 h2
def supAt (n : Int) (l : List Fd) (i : Nat) : Bool := ((canE n l).take i).any fun f => skey n l (pt f)
theorem supAt_succ {i : Nat} (hi : i < (canE n l).length) : supAt n l (i + 1) = (supAt n l i || skey n l (pt ((canE n l).getD i default))) := by
  unfold supAt
  rw [take_snoc hi, List.any_append]
  simp
theorem full_skey (h : vErr n l = 0) : skey n l (fullI n) = true := decide_eq_true ⟨h, sub_refl _, sub_antisymm (clo_full h (sub_refl _)) clo_ge⟩
theorem full_rk (h : vErr n l = 0) : rkE n l (fullI n) = 0 := (rk_3 h (full_skey h)).2
def ptsL (n : Int) (l : List Fd) : List AS := (canE n l).map pt
def synS (n : Int) (l : List Fd) : List AS := maxl (if supAt n l (canE n l).length = true then ptsL n l else ptsL n l ++ [rkS n l (fullI n)])
def synE (n : Int) (l : List Fd) : List AS := if vErr n l = 0 then synS n l else []
theorem synE_f (h : ¬ vErr n l = 0) : synE n l = [] := if_neg h
theorem synE_t (h : vErr n l = 0) : synE n l = synS n l := if_pos h
theorem ptsL_len (n : Int) (l : List Fd) : (ptsL n l).length ≤ 2048 := by unfold ptsL; rw [List.length_map]; exact canE_len n l
theorem ptsL_take (n : Int) (l : List Fd) : ((canE n l).take (canE n l).length).map pt = ptsL n l := by rw [List.take_length]; rfl
def synP (n : Int) (l : List Fd) : List AS := if supAt n l (canE n l).length = true then ptsL n l else ptsL n l ++ [rkS n l (fullI n)]
theorem synP_t (h : supAt n l (canE n l).length = true) : synP n l = ((canE n l).take (canE n l).length).map pt := by rw [ptsL_take]; exact if_pos h
theorem synP_f (h : supAt n l (canE n l).length = false) : synP n l = ((canE n l).take (canE n l).length).map pt ++ [rkS n l (fullI n)] := by rw [ptsL_take]; exact if_neg (by rw [h]; decide)
theorem synP_len (n : Int) (l : List Fd) : (synP n l).length ≤ 4096 := by
  have := ptsL_len n l
  unfold synP
  split
  · omega
  · rw [List.length_append, List.length_singleton]; omega
theorem sup_1 {i : Nat} (hi : i < (canE n l).length) (h : supAt n l i = true) : true = supAt n l (i + 1) := by rw [supAt_succ hi, h]; rfl
theorem sup_2 {i : Nat} (hi : i < (canE n l).length) (h : supAt n l i = false) : skey n l (pt ((canE n l).getD i default)) = supAt n l (i + 1) := by rw [supAt_succ hi, h]; rfl
theorem sup_3 {i : Nat} (hi : i < (canE n l).length) : (bif supAt n l i then true else skey n l (pt ((canE n l).getD i default))) = supAt n l (i + 1) := by rw [supAt_succ hi]; cases supAt n l i <;> rfl
end
theorem cRSkX {n : Int} {l : List Fd} (h : vErr n l = 0) {s : AS} (hs : sub s (fullI n)) : HPure Tryd.prog 55 [pP (fdl l), pA s, pA (fullI n)] (prOf [pB (skey n l s)]) := by
  have hh := cRSk l s (fullI n)
  rw [show decide (sub (fullI n) (clo l s)) = skey n l s from (skey_supP h hs).symm] at hh
  exact hh
end Go.Hx
end
section
namespace Go.Hx
open Go.Proofs
set_option maxRecDepth 100000
theorem good97 : goodFn Tryd.prog 97 := ⟨Tryd.f97, Tryd.func97, by kernel_rfl, by kernel_rfl⟩
theorem good57 : goodFn Tryd.prog 57 := ⟨Tryd.f57, Tryd.func57, by kernel_rfl, by kernel_rfl⟩
theorem cCanon (hM : ∀ k : List Fd, k.length ≤ 16777216 → HPure Tryd.prog 97 [pP (fdl k)] (prOf [pP (fdl (mrgS k))])) (n : Int) (l : List Fd) : HPure Tryd.prog 57 [pI n, pP (fdl l)] (prOf [pP (fdl (canE n l)), pI (vErr n l)]) := by
  refine hpure_of (nt := 17) Trydok Tryd.func57 rfl rfl (Nat.le_of_ble_eq_true rfl) ?_; refine hw_seq ?_; refine hw_region (E := TrydE) Trydok ?_; (iterate 2 refine rq rfl rfl rfl rfl rfl ?_); refine rg_nil ?_; show HW _ _ _ _ _
  refine hw_seq ?_; refine hw_region (E := TrydE) Trydok ?_; (iterate 2 refine rq rfl rfl rfl rfl rfl ?_); refine rc rfl rfl rfl rfl rfl rfl good51 (cCMin n l) (CoL.refl _) rfl rfl ?_; (iterate 5 refine rq rfl rfl rfl rfl rfl ?_)
  refine rg_nil ?_; show HW _ _ _ _ _; refine hw_seq ?_
  have hml := minE_len n l
  refine hw_region (E := TrydE) Trydok ?_; refine rq rfl rfl rfl rfl rfl ?_; refine rc rfl rfl rfl rfl rfl rfl good97 (hM (minE n l) (by omega)) (CoL.refl _) rfl rfl ?_; (iterate 3 refine rq rfl rfl rfl rfl rfl ?_); refine rg_nil ?_
  show HW _ _ _ _ _; refine hw_ret ?_; refine ⟨.inr rfl, ?_⟩
  exact ⟨_, _, _, _, rfl, (by (repeat' apply And.intro) <;> first | trivial | exact Nat.le_of_ble_eq_true rfl | rfl), rfl, (by (repeat' apply And.intro) <;> first | trivial | exact Nat.le_of_ble_eq_true rfl | rfl), CoL.refl _⟩
theorem good61 : goodFn Tryd.prog 61 := ⟨Tryd.f61, Tryd.func61, by kernel_rfl, by kernel_rfl⟩
theorem cRCanon (n : Int) (l : List Fd) : HPure Tryd.prog 61 [pI n, pP (fdl l)] (prOf [pP (fdl (canE n l)), pI (vErr n l)]) := by
  refine hpure_of (nt := 17) Trydok Tryd.func61 rfl rfl (Nat.le_of_ble_eq_true rfl) ?_; refine hw_seq ?_; refine hw_region (E := TrydE) Trydok ?_; (iterate 2 refine rq rfl rfl rfl rfl rfl ?_); refine rg_nil ?_; show HW _ _ _ _ _
  refine hw_seq ?_; refine hw_region (E := TrydE) Trydok ?_; (iterate 2 refine rq rfl rfl rfl rfl rfl ?_); refine rc rfl rfl rfl rfl rfl rfl good53 (cRCMin n l) (CoL.refl _) rfl rfl ?_; (iterate 5 refine rq rfl rfl rfl rfl rfl ?_)
  refine rg_nil ?_; show HW _ _ _ _ _; refine hw_seq ?_
  have hml := minE_len n l
  refine hw_region (E := TrydE) Trydok ?_; refine rq rfl rfl rfl rfl rfl ?_; refine rc rfl rfl rfl rfl rfl rfl good101 (cRMerge (minE n l) (by omega)) (CoL.refl _) rfl rfl ?_; (iterate 3 refine rq rfl rfl rfl rfl rfl ?_)
  refine rg_nil ?_; show HW _ _ _ _ _; refine hw_ret ?_; refine ⟨.inr rfl, ?_⟩
  exact ⟨_, _, _, _, rfl, (by (repeat' apply And.intro) <;> first | trivial | exact Nat.le_of_ble_eq_true rfl | rfl), rfl, (by (repeat' apply And.intro) <;> first | trivial | exact Nat.le_of_ble_eq_true rfl | rfl), CoL.refl _⟩
theorem good24 : goodFn Tryd.prog 24 := ⟨Tryd.f24, Tryd.func24, by kernel_rfl, by kernel_rfl⟩
theorem cTSynth (hM : ∀ k : List Fd, k.length ≤ 16777216 → HPure Tryd.prog 97 [pP (fdl k)] (prOf [pP (fdl (mrgS k))])) (n : Int) (l : List Fd) : HPure Tryd.prog 24 [pI n, pP (fdl l)] (prOf [pP (asl (synE n l)), pI (vErr n l)]) := by
  refine hpure_of (nt := 66) Trydok Tryd.func24 rfl rfl (Nat.le_of_ble_eq_true rfl) ?_; refine hw_seq ?_; refine hw_region (E := TrydE) Trydok ?_; (iterate 2 refine rq rfl rfl rfl rfl rfl ?_); refine rg_nil ?_; show HW _ _ _ _ _
  refine hw_seq ?_; refine hw_region (E := TrydE) Trydok ?_; (iterate 2 refine rq rfl rfl rfl rfl rfl ?_); refine rc rfl rfl rfl rfl rfl rfl good57 (cCanon hM n l) (CoL.refl _) rfl rfl ?_
  (iterate 5 refine rq rfl rfl rfl rfl rfl ?_); refine rg_nil ?_; show HW _ _ _ _ _; (iterate 2 refine hw_seq ?_); refine hw_region (E := TrydE) Trydok ?_; (iterate 2 refine rq rfl rfl rfl rfl rfl ?_); refine rg_nil ?_
  show HW _ _ _ _ _; refine hw_cond _ rfl (fun r0 => ?_) (fun r0 => ?_)
  · skip
    have h0 := r0
    have h0 := of_decide_eq_false (not_t h0)
    try simp only [Int.toNat_natCast] at h0
    refine hw_seq ?_; refine hw_region (E := TrydE) Trydok ?_; (iterate 3 refine rq rfl rfl rfl rfl rfl ?_); refine rg_nil ?_; show HW _ _ _ _ _; refine hw_ret ?_; refine ⟨.inr rfl, ?_⟩
    exact ⟨_, _, _, _, rfl, (by (repeat' apply And.intro) <;> first | trivial | exact Nat.le_of_ble_eq_true rfl | rfl), rfl, (by (repeat' apply And.intro) <;> first | trivial | exact Nat.le_of_ble_eq_true rfl | rfl), ⟨CoC.one (nilS (synE_f h0)), CoC.refl _, trivial⟩⟩
  · skip
    have h0 := r0
    have h0 := of_decide_eq_true (not_f h0)
    try simp only [Int.toNat_natCast] at h0
    refine hw_skip ?_; show HW _ _ _ _ _; refine hw_seq ?_
    have hv := vErr_ok h0
    have hcl := canE_len n l
    have hsl := synP_len n l
    refine hw_region (E := TrydE) Trydok ?_; refine rq rfl rfl rfl rfl rfl ?_; refine rg_nil ?_; show HW _ _ _ _ _; refine hw_seq ?_; refine hw_region (E := TrydE) Trydok ?_; refine rq rfl rfl rfl rfl rfl ?_; refine rg_nil ?_
    show HW _ _ _ _ _; (iterate 2 refine hw_seq ?_); refine hw_region (E := TrydE) Trydok ?_; (iterate 3 refine rq rfl rfl rfl rfl rfl ?_); refine rg_nil ?_; show HW _ _ _ _ _; refine hw_block ?_
    refine hw_adopt 8 900 true 1 30 (lf sC []) (by decide) rfl (CoP.sl rfl (.inr rfl) (fun h => h) (fun i j hi _ => absurd hi (Nat.not_lt_zero i))) (.inr rfl) rfl ?_
    refine hw_loopK (ι := Nat) ⟨[(0, some _), (1, some _), (24, some _), (25, some _)], []⟩ ⟨⟨⟨_, rfl, CoR.refl _⟩, ⟨_, rfl, CoR.refl _⟩, ⟨_, rfl, CoR.refl _⟩, ⟨_, rfl, CoR.refl _⟩, trivial⟩, trivial⟩ (fun i => ⟨[(8, some (.v (.one (.ref 900 (((canE n l).take i).map pt).length)))), (9, some (vB (supAt n l i))), (26, some (vI i))], [(900, some (.arr true 1 30 (((canE n l).take i).map pt).length (lf sC (((canE n l).take i).map pt))))]⟩) (fun i => i ≤ (canE n l).length) (fun i => (canE n l).length - i) (0) (Nat.zero_le _) ⟨⟨⟨_, rfl, (by first | exact CoR.refl _ | exact coi (by omega) | exact cob (by simp_all))⟩, ⟨_, rfl, (cob rfl)⟩, ⟨_, rfl, (by first | exact CoR.refl _ | exact coi (by omega) | exact cob (by simp_all))⟩, trivial⟩, ⟨⟨_, rfl, CoO.refl _⟩, trivial⟩⟩ ?_
    rintro i hi
    have hlen : (((canE n l).take i).map pt).length ≤ i := by rw [List.length_map, List.length_take]; omega
    refine hw_seq ?_; refine hw_region (E := TrydE) Trydok ?_; refine rq rfl rfl rfl rfl rfl ?_; refine rg_nil ?_; show HW _ _ _ _ _; refine hw_seq ?_; refine hw_cond _ rfl (fun r1 => ?_) (fun r1 => ?_)
    · skip
      have h1 := r1
      have h1 := of_decide_eq_true h1
      try simp only [Int.toNat_natCast] at h1
      refine hw_skip ?_; show HW _ _ _ _ _; refine hw_seq ?_; refine hw_block ?_; refine hw_seq ?_; refine hw_region (E := TrydE) Trydok ?_; (iterate 2 refine rq rfl rfl rfl rfl rfl ?_); refine rm 0 rfl rfl rfl rfl rfl rfl ?_
      refine rs rfl rfl rfl rfl rfl ?_; refine rg_nil ?_; show HW _ _ _ _ _; refine hw_seq ?_; refine hw_region (E := TrydE) Trydok ?_; (iterate 6 refine rq rfl rfl rfl rfl rfl ?_); refine rg_nil ?_; show HW _ _ _ _ _
      refine hw_seq ?_; refine hw_region (E := TrydE) Trydok ?_; (iterate 2 refine rq rfl rfl rfl rfl rfl ?_); refine rm 1 rfl rfl rfl rfl rfl rfl ?_; refine ra 2 true rfl rfl rfl rfl rfl rfl ?_; refine rq rfl rfl rfl rfl rfl ?_
      refine rg_nil ?_; show HW _ _ _ _ _; refine hw_region (E := TrydE) Trydok ?_; (iterate 2 refine rq rfl rfl rfl rfl rfl ?_); refine rsplit rfl rfl (fun r2 => ?_) (fun r2 => ?_)
      · skip
        have h2 := r2
        (iterate 4 refine rk rfl rfl rfl (gtf r2) ?_); refine rq rfl rfl rfl rfl rfl ?_ (hp := r2); refine rq rfl rfl rfl rfl rfl ?_; refine rg_nil ?_; show HW _ _ _ _ _; refine hw_region (E := TrydE) Trydok ?_
        (iterate 2 refine rq rfl rfl rfl rfl rfl ?_); refine rg_nil ?_; refine ⟨i + 1, ?_, ?_, ?_⟩
        · show i + 1 ≤ _; omega
        · first | omega | (dsimp only; omega)
        · exact ⟨⟨⟨_, rfl, (ref_app (mapT (by omega)))⟩, ⟨_, rfl, (cob (by first | exact sup_1 (n := n) (l := l) (i := i) (by omega) (by assumption) | exact sup_2 (n := n) (l := l) (i := i) (by omega) (by assumption) | exact sup_3 (n := n) (l := l) (i := i) (by omega)))⟩, ⟨_, rfl, (by first | exact CoR.refl _ | exact coi (by omega) | exact cob (by simp_all))⟩, ⟨_, rfl, CoR.refl _⟩, ⟨_, rfl, CoR.refl _⟩, ⟨_, rfl, CoR.refl _⟩, ⟨_, rfl, CoR.refl _⟩, trivial⟩, ⟨⟨_, rfl, (arr_app1 (mapT (by omega)) (CoP.of_eq (congrArg (fun z => PV.raw (.int .u32 z)) (bOr _ _))))⟩, trivial⟩⟩
      · skip
        have h2 := r2
        (iterate 3 refine rq rfl rfl rfl rfl (gff r2) ?_); refine rc rfl rfl rfl rfl rfl rfl good58 (cSkey n l (pt ((canE n l).getD i default))) (⟨CoC.refl _, CoC.refl _, cci (bOr _ _), trivial⟩) rfl (gff r2) ?_
        (iterate 2 refine rq rfl rfl rfl rfl rfl ?_); refine rg_nil ?_; show HW _ _ _ _ _; refine hw_region (E := TrydE) Trydok ?_; (iterate 2 refine rq rfl rfl rfl rfl rfl ?_); refine rg_nil ?_; refine ⟨i + 1, ?_, ?_, ?_⟩
        · show i + 1 ≤ _; omega
        · first | omega | (dsimp only; omega)
        · exact ⟨⟨⟨_, rfl, (ref_app (mapT (by omega)))⟩, ⟨_, rfl, (cob (by first | exact sup_1 (n := n) (l := l) (i := i) (by omega) (by assumption) | exact sup_2 (n := n) (l := l) (i := i) (by omega) (by assumption) | exact sup_3 (n := n) (l := l) (i := i) (by omega)))⟩, ⟨_, rfl, (by first | exact CoR.refl _ | exact coi (by omega) | exact cob (by simp_all))⟩, ⟨_, rfl, CoR.refl _⟩, ⟨_, rfl, CoR.refl _⟩, ⟨_, rfl, CoR.refl _⟩, ⟨_, rfl, CoR.refl _⟩, trivial⟩, ⟨⟨_, rfl, (arr_app1 (mapT (by omega)) (CoP.of_eq (congrArg (fun z => PV.raw (.int .u32 z)) (bOr _ _))))⟩, trivial⟩⟩
    · skip
      have h1 := r1
      have h1 := of_decide_eq_false h1
      try simp only [Int.toNat_natCast] at h1
      obtain rfl : i = (canE n l).length := by omega
      refine hw_exit ?_; show HW _ _ _ _ _
      refine hw_joinK (ι := Unit) ⟨[], []⟩ ⟨trivial, trivial⟩ (fun _i => ⟨[(8, some (.v (.one (.ref 900 (synP n l).length))))], [(900, some (.arr true 1 30 (synP n l).length (lf sC (synP n l))))]⟩) (fun _i => True) ?_ ?_
      · skip
        refine hw_seq ?_; refine hw_region (E := TrydE) Trydok ?_; (iterate 2 refine rq rfl rfl rfl rfl rfl ?_); refine rg_nil ?_; show HW _ _ _ _ _; refine hw_cond _ rfl (fun r3 => ?_) (fun r3 => ?_)
        · skip
          have h3 := r3
          have h3 := not_t h3
          refine hw_seq ?_; refine hw_region (E := TrydE) Trydok ?_; (iterate 3 refine rq rfl rfl rfl rfl rfl ?_); refine rc rfl rfl rfl rfl rfl rfl good52 (cTFull n hv.1 hv.2.1) (CoL.refl _) rfl rfl ?_
          refine rc rfl rfl rfl rfl rfl rfl good59 (cReduce n l (fullI n)) (CoL.refl _) rfl rfl ?_; (iterate 5 refine rq rfl rfl rfl rfl rfl ?_); refine rg_nil ?_; show HW _ _ _ _ _; (iterate 2 refine hw_seq ?_)
          refine hw_region (E := TrydE) Trydok ?_; (iterate 2 refine rq rfl rfl rfl rfl rfl ?_); refine rg_nil ?_; show HW _ _ _ _ _; refine hw_cond _ rfl (fun r4 => ?_) (fun r4 => ?_)
          · skip
            have h4 := r4
            have h4 := of_decide_eq_false (not_t h4)
            try simp only [Int.toNat_natCast] at h4
            exfalso
            exact h4 (full_rk h0)
          · skip
            have h4 := r4
            have h4 := of_decide_eq_true (not_f h4)
            try simp only [Int.toNat_natCast] at h4
            refine hw_skip ?_; show HW _ _ _ _ _; refine hw_region (E := TrydE) Trydok ?_; (iterate 2 refine rq rfl rfl rfl rfl rfl ?_); refine rm 3 rfl rfl rfl rfl rfl rfl ?_; refine ra 4 true rfl rfl rfl rfl rfl rfl ?_
            refine rq rfl rfl rfl rfl rfl ?_; refine rg_nil ?_; refine ⟨(), ?_, ?_⟩
            · trivial
            · exact ⟨⟨⟨_, rfl, (by first | exact ref_to (by rw [synP_t (by assumption)]) | exact ref_to (by rw [synP_f (by assumption), List.length_append]; rfl))⟩, trivial⟩, ⟨⟨_, rfl, (by first | exact arr_len (synP_t (by assumption)) (by rw [synP_t (by assumption)]) | exact arr_app1 (synP_f (by assumption)) (CoP.refl _))⟩, trivial⟩⟩
        · skip
          have h3 := r3
          have h3 := not_f h3
          refine hw_skip ?_; refine ⟨(), ?_, ?_⟩
          · trivial
          · exact ⟨⟨⟨_, rfl, (by first | exact ref_to (by rw [synP_t (by assumption)]) | exact ref_to (by rw [synP_f (by assumption), List.length_append]; rfl))⟩, trivial⟩, ⟨⟨_, rfl, (by first | exact arr_len (synP_t (by assumption)) (by rw [synP_t (by assumption)]) | exact arr_app1 (synP_f (by assumption)) (CoP.refl _))⟩, trivial⟩⟩
      · rintro _ _
        refine hw_seq ?_; refine hw_freeze 8 rfl rfl rfl ?_; refine hw_region (E := TrydE) Trydok ?_; refine rq rfl rfl rfl rfl rfl ?_
        refine rc rfl rfl rfl rfl rfl rfl good60 (cMaximal (synP n l) (by omega)) (CoL.refl _) rfl rfl ?_; (iterate 2 refine rq rfl rfl rfl rfl rfl ?_); refine rg_nil ?_; show HW _ _ _ _ _; refine hw_ret ?_; refine ⟨.inr rfl, ?_⟩
        exact ⟨_, _, _, _, rfl, (by (repeat' apply And.intro) <;> first | trivial | exact Nat.le_of_ble_eq_true rfl | rfl), rfl, (by (repeat' apply And.intro) <;> first | trivial | exact Nat.le_of_ble_eq_true rfl | rfl), ⟨CoC.one (CoP.of_eq (by rw [synE_t h0]; rfl)), cci h0.symm, trivial⟩⟩
theorem good25 : goodFn Tryd.prog 25 := ⟨Tryd.f25, Tryd.func25, by kernel_rfl, by kernel_rfl⟩
theorem cR23Synth (n : Int) (l : List Fd) : HPure Tryd.prog 25 [pI n, pP (fdl l)] (prOf [pP (asl (synE n l)), pI (vErr n l)]) := by
  refine hpure_of (nt := 68) Trydok Tryd.func25 rfl rfl (Nat.le_of_ble_eq_true rfl) ?_; refine hw_seq ?_; refine hw_region (E := TrydE) Trydok ?_; (iterate 2 refine rq rfl rfl rfl rfl rfl ?_); refine rg_nil ?_; show HW _ _ _ _ _
  refine hw_seq ?_; refine hw_region (E := TrydE) Trydok ?_; (iterate 2 refine rq rfl rfl rfl rfl rfl ?_); refine rc rfl rfl rfl rfl rfl rfl good61 (cRCanon n l) (CoL.refl _) rfl rfl ?_; (iterate 5 refine rq rfl rfl rfl rfl rfl ?_)
  refine rg_nil ?_; show HW _ _ _ _ _; (iterate 2 refine hw_seq ?_); refine hw_region (E := TrydE) Trydok ?_; (iterate 2 refine rq rfl rfl rfl rfl rfl ?_); refine rg_nil ?_; show HW _ _ _ _ _
  refine hw_cond _ rfl (fun r0 => ?_) (fun r0 => ?_)
  · skip
    have h0 := r0
    have h0 := of_decide_eq_false (not_t h0)
    try simp only [Int.toNat_natCast] at h0
    refine hw_seq ?_; refine hw_region (E := TrydE) Trydok ?_; (iterate 3 refine rq rfl rfl rfl rfl rfl ?_); refine rg_nil ?_; show HW _ _ _ _ _; refine hw_ret ?_; refine ⟨.inr rfl, ?_⟩
    exact ⟨_, _, _, _, rfl, (by (repeat' apply And.intro) <;> first | trivial | exact Nat.le_of_ble_eq_true rfl | rfl), rfl, (by (repeat' apply And.intro) <;> first | trivial | exact Nat.le_of_ble_eq_true rfl | rfl), ⟨CoC.one (nilS (synE_f h0)), CoC.refl _, trivial⟩⟩
  · skip
    have h0 := r0
    have h0 := of_decide_eq_true (not_f h0)
    try simp only [Int.toNat_natCast] at h0
    refine hw_skip ?_; show HW _ _ _ _ _; refine hw_seq ?_
    have hv := vErr_ok h0
    have hcl := canE_len n l
    have hsl := synP_len n l
    refine hw_region (E := TrydE) Trydok ?_; refine rq rfl rfl rfl rfl rfl ?_; refine rg_nil ?_; show HW _ _ _ _ _; refine hw_seq ?_; refine hw_region (E := TrydE) Trydok ?_; refine rq rfl rfl rfl rfl rfl ?_; refine rg_nil ?_
    show HW _ _ _ _ _; (iterate 2 refine hw_seq ?_); refine hw_region (E := TrydE) Trydok ?_; refine rq rfl rfl rfl rfl rfl ?_; refine rg_nil ?_; show HW _ _ _ _ _; refine hw_block ?_
    refine hw_adopt 8 900 true 1 30 (lf sC []) (by decide) rfl (CoP.sl rfl (.inr rfl) (fun h => h) (fun i j hi _ => absurd hi (Nat.not_lt_zero i))) (.inr rfl) rfl ?_
    refine hw_loopK (ι := Nat) ⟨[(0, some _), (1, some _), (6, some _)], []⟩ ⟨⟨⟨_, rfl, CoR.refl _⟩, ⟨_, rfl, CoR.refl _⟩, ⟨_, rfl, CoR.refl _⟩, trivial⟩, trivial⟩ (fun i => ⟨[(8, some (.v (.one (.ref 900 (((canE n l).take i).map pt).length)))), (9, some (vB (supAt n l i))), (10, some (vI i))], [(900, some (.arr true 1 30 (((canE n l).take i).map pt).length (lf sC (((canE n l).take i).map pt))))]⟩) (fun i => i ≤ (canE n l).length) (fun i => (canE n l).length - i) (0) (Nat.zero_le _) ⟨⟨⟨_, rfl, (by first | exact CoR.refl _ | exact coi (by omega) | exact cob (by simp_all))⟩, ⟨_, rfl, (cob rfl)⟩, ⟨_, rfl, (by first | exact CoR.refl _ | exact coi (by omega) | exact cob (by simp_all))⟩, trivial⟩, ⟨⟨_, rfl, CoO.refl _⟩, trivial⟩⟩ ?_
    rintro i hi
    have hlen : (((canE n l).take i).map pt).length ≤ i := by rw [List.length_map, List.length_take]; omega
    (iterate 2 refine hw_seq ?_); refine hw_region (E := TrydE) Trydok ?_; (iterate 4 refine rq rfl rfl rfl rfl rfl ?_); refine rg_nil ?_; show HW _ _ _ _ _; refine hw_cond _ rfl (fun r1 => ?_) (fun r1 => ?_)
    · skip
      have h1 := r1
      have h1 := of_decide_eq_true h1
      try simp only [Int.toNat_natCast] at h1
      refine hw_skip ?_; show HW _ _ _ _ _; refine hw_seq ?_; refine hw_block ?_; refine hw_seq ?_; refine hw_draw (E := TrydE) Trydok Trydmixed [0, 1, 2, 3, 4, 5, 6, 7, 8, 9, 10, 11] ?_
      (iterate 12 refine rq rfl rfl rfl rfl rfl ?_); refine rg_nil ?_; refine ⟨by kernel_rfl, ?_⟩; show HW _ _ _ _ _; refine hw_seq ?_; refine hw_region (E := TrydE) Trydok ?_; (iterate 2 refine rq rfl rfl rfl rfl rfl ?_)
      refine rm 0 rfl rfl rfl rfl rfl rfl ?_; refine ra 1 true rfl rfl rfl rfl rfl rfl ?_; refine rq rfl rfl rfl rfl rfl ?_; refine rg_nil ?_; show HW _ _ _ _ _; refine hw_region (E := TrydE) Trydok ?_
      (iterate 2 refine rq rfl rfl rfl rfl rfl ?_); refine rsplit rfl rfl (fun r2 => ?_) (fun r2 => ?_)
      · skip
        have h2 := r2
        (iterate 5 refine rk rfl rfl rfl (gtf r2) ?_); refine rq rfl rfl rfl rfl rfl ?_ (hp := r2); refine rq rfl rfl rfl rfl rfl ?_; refine rg_nil ?_; show HW _ _ _ _ _; refine hw_region (E := TrydE) Trydok ?_
        (iterate 3 refine rq rfl rfl rfl rfl rfl ?_); refine rg_nil ?_; refine ⟨i + 1, ?_, ?_, ?_⟩
        · show i + 1 ≤ _; omega
        · first | omega | (dsimp only; omega)
        · exact ⟨⟨⟨_, rfl, (ref_app (mapT (by omega)))⟩, ⟨_, rfl, (cob (by first | exact sup_1 (n := n) (l := l) (i := i) (by omega) (by assumption) | exact sup_2 (n := n) (l := l) (i := i) (by omega) (by assumption) | exact sup_3 (n := n) (l := l) (i := i) (by omega)))⟩, ⟨_, rfl, (by first | exact CoR.refl _ | exact coi (by omega) | exact cob (by simp_all))⟩, ⟨_, rfl, CoR.refl _⟩, ⟨_, rfl, CoR.refl _⟩, ⟨_, rfl, CoR.refl _⟩, trivial⟩, ⟨⟨_, rfl, (arr_app1 (mapT (by omega)) (CoP.of_eq (congrArg (fun z => PV.raw (.int .u32 z)) (bOr _ _))))⟩, trivial⟩⟩
      · skip
        have h2 := r2
        (iterate 3 refine rq rfl rfl rfl rfl (gff r2) ?_); refine rc rfl rfl rfl rfl rfl rfl good28 (cRFull n) (CoL.refl _) rfl (gff r2) ?_
        refine rc rfl rfl rfl rfl rfl rfl good55 (cRSkX h0 (pt_in h0 (i := i) (by omega))) (⟨CoC.refl _, cci (bOr _ _), CoC.refl _, trivial⟩) rfl (gff r2) ?_; (iterate 2 refine rq rfl rfl rfl rfl rfl ?_); refine rg_nil ?_
        show HW _ _ _ _ _; refine hw_region (E := TrydE) Trydok ?_; (iterate 3 refine rq rfl rfl rfl rfl rfl ?_); refine rg_nil ?_; refine ⟨i + 1, ?_, ?_, ?_⟩
        · show i + 1 ≤ _; omega
        · first | omega | (dsimp only; omega)
        · exact ⟨⟨⟨_, rfl, (ref_app (mapT (by omega)))⟩, ⟨_, rfl, (cob (by first | exact sup_1 (n := n) (l := l) (i := i) (by omega) (by assumption) | exact sup_2 (n := n) (l := l) (i := i) (by omega) (by assumption) | exact sup_3 (n := n) (l := l) (i := i) (by omega)))⟩, ⟨_, rfl, (by first | exact CoR.refl _ | exact coi (by omega) | exact cob (by simp_all))⟩, ⟨_, rfl, CoR.refl _⟩, ⟨_, rfl, CoR.refl _⟩, ⟨_, rfl, CoR.refl _⟩, trivial⟩, ⟨⟨_, rfl, (arr_app1 (mapT (by omega)) (CoP.of_eq (congrArg (fun z => PV.raw (.int .u32 z)) (bOr _ _))))⟩, trivial⟩⟩
    · skip
      have h1 := r1
      have h1 := of_decide_eq_false h1
      try simp only [Int.toNat_natCast] at h1
      obtain rfl : i = (canE n l).length := by omega
      refine hw_exit ?_; show HW _ _ _ _ _
      refine hw_joinK (ι := Unit) ⟨[], []⟩ ⟨trivial, trivial⟩ (fun _i => ⟨[(8, some (.v (.one (.ref 900 (synP n l).length))))], [(900, some (.arr true 1 30 (synP n l).length (lf sC (synP n l))))]⟩) (fun _i => True) ?_ ?_
      · skip
        refine hw_seq ?_; refine hw_region (E := TrydE) Trydok ?_; (iterate 2 refine rq rfl rfl rfl rfl rfl ?_); refine rg_nil ?_; show HW _ _ _ _ _; refine hw_cond _ rfl (fun r3 => ?_) (fun r3 => ?_)
        · skip
          have h3 := r3
          have h3 := not_t h3
          refine hw_seq ?_; refine hw_region (E := TrydE) Trydok ?_; (iterate 3 refine rq rfl rfl rfl rfl rfl ?_); refine rc rfl rfl rfl rfl rfl rfl good28 (cRFull n) (CoL.refl _) rfl rfl ?_
          refine rc rfl rfl rfl rfl rfl rfl good62 (cRReduce n l (fullI n)) (CoL.refl _) rfl rfl ?_; (iterate 5 refine rq rfl rfl rfl rfl rfl ?_); refine rg_nil ?_; show HW _ _ _ _ _; refine hw_region (E := TrydE) Trydok ?_
          (iterate 2 refine rq rfl rfl rfl rfl rfl ?_); refine rm 2 rfl rfl rfl rfl rfl rfl ?_; refine ra 3 true rfl rfl rfl rfl rfl rfl ?_; refine rq rfl rfl rfl rfl rfl ?_; refine rg_nil ?_; refine ⟨(), ?_, ?_⟩
          · trivial
          · exact ⟨⟨⟨_, rfl, (by first | exact ref_to (by rw [synP_t (by assumption)]) | exact ref_to (by rw [synP_f (by assumption), List.length_append]; rfl))⟩, trivial⟩, ⟨⟨_, rfl, (by first | exact arr_len (synP_t (by assumption)) (by rw [synP_t (by assumption)]) | exact arr_app1 (synP_f (by assumption)) (CoP.refl _))⟩, trivial⟩⟩
        · skip
          have h3 := r3
          have h3 := not_f h3
          refine hw_skip ?_; refine ⟨(), ?_, ?_⟩
          · trivial
          · exact ⟨⟨⟨_, rfl, (by first | exact ref_to (by rw [synP_t (by assumption)]) | exact ref_to (by rw [synP_f (by assumption), List.length_append]; rfl))⟩, trivial⟩, ⟨⟨_, rfl, (by first | exact arr_len (synP_t (by assumption)) (by rw [synP_t (by assumption)]) | exact arr_app1 (synP_f (by assumption)) (CoP.refl _))⟩, trivial⟩⟩
      · rintro _ _
        refine hw_seq ?_; refine hw_freeze 8 rfl rfl rfl ?_; refine hw_region (E := TrydE) Trydok ?_; refine rq rfl rfl rfl rfl rfl ?_
        refine rc rfl rfl rfl rfl rfl rfl good29 (cRMaximal (synP n l) (by omega)) (CoL.refl _) rfl rfl ?_; (iterate 2 refine rq rfl rfl rfl rfl rfl ?_); refine rg_nil ?_; show HW _ _ _ _ _; refine hw_ret ?_; refine ⟨.inr rfl, ?_⟩
        exact ⟨_, _, _, _, rfl, (by (repeat' apply And.intro) <;> first | trivial | exact Nat.le_of_ble_eq_true rfl | rfl), rfl, (by (repeat' apply And.intro) <;> first | trivial | exact Nat.le_of_ble_eq_true rfl | rfl), ⟨CoC.one (CoP.of_eq (by rw [synE_t h0]; rfl)), cci h0.symm, trivial⟩⟩
end Go.Hx
end
section
namespace Go.Hx
def Eqv (l k : List Fd) : Prop := ∀ s, closedB l s ↔ closedB k s
theorem Eqv.refl (l : List Fd) : Eqv l l := fun s => Iff.rfl
theorem Eqv.trans {a b c : List Fd} (h : Eqv a b) (k : Eqv b c) : Eqv a c := fun s => (h s).trans (k s)
theorem Eqv.clo {l k : List Fd} (h : Eqv l k) (s : AS) : clo l s = clo k s :=
  sub_antisymm (clo_least ((h _).2 clo_isClosed) clo_ge) (clo_least ((h _).1 clo_isClosed) clo_ge)
theorem eqv_mem {l k : List Fd} (h : ∀ f, f ∈ l ↔ f ∈ k) : Eqv l k := fun s => ⟨fun hs f hf => hs f ((h f).2 hf), fun hs f hf => hs f ((h f).1 hf)⟩
theorem eqv_split (l : List Fd) : Eqv l (splitL l) := fun s => by
  constructor
  · intro hs g hg hgs
    unfold splitL at hg
    obtain ⟨ys, hys, hxy⟩ := List.mem_flatten.1 hg
    obtain ⟨f, hf, rfl⟩ := List.mem_map.1 hys
    unfold splitA at hxy
    obtain ⟨a, ha, rfl⟩ := List.mem_map.1 hxy
    have hr := hs f hf hgs
    refine sub_bit.2 fun i hi hb => ?_
    have h1 : ((1 : AS) <<< a).getLsbD i = decide (i = a) := bit_one a i hi
    rw [show (⟨f.lhs, (1 : AS) <<< a⟩ : Fd).rhs.getLsbD i = decide (i = a) from h1, decide_eq_true_iff] at hb
    subst hb
    have hm := (mem_membs.1 ha).2
    rw [BitVec.getLsbD_and, Bool.and_eq_true] at hm
    exact sub_bit.1 hr i hi hm.1
  · intro hs f hf hfs
    refine sub_bit.2 fun i hi hb => ?_
    by_cases hl : f.lhs.getLsbD i = true
    · exact sub_bit.1 hfs i hi hl
    · have hg : (⟨f.lhs, (1 : AS) <<< i⟩ : Fd) ∈ splitL l := by
        unfold splitL
        refine List.mem_flatten.2 ⟨splitA f, List.mem_map.2 ⟨f, hf, rfl⟩, ?_⟩
        unfold splitA
        refine List.mem_map.2 ⟨i, mem_membs.2 ⟨hi, ?_⟩, rfl⟩
        rw [BitVec.getLsbD_and, BitVec.getLsbD_not, decide_eq_true hi, hb]
        cases hq : f.lhs.getLsbD i with
        | true => exact absurd hq hl
        | false => rfl
      have h1 : ((1 : AS) <<< i).getLsbD i = decide (i = i) := bit_one i i hi
      exact sub_bit.1 (hs _ hg hfs) i hi (h1.trans (decide_eq_true rfl))
theorem imp_closed {l : List Fd} {f : Fd} (h : imp l f = true) {s : AS} (hs : closedB l s) (hf : sub f.lhs s) : sub f.rhs s :=
  sub_trans (of_decide_eq_true h) (clo_least hs hf)
theorem eqv_set {l : List Fd} {i : Nat} {g : Fd} (hg : imp l g = true) (h1 : sub g.lhs (l.getD i default).lhs) (h2 : g.rhs = (l.getD i default).rhs) : Eqv l (l.set i g) := fun s => by
  constructor
  · intro hs f hf hfs
    rcases List.mem_or_eq_of_mem_set hf with hf | rfl
    · exact hs f hf hfs
    · exact imp_closed hg hs hfs
  · intro hs f hf hfs
    obtain ⟨j, hj, rfl⟩ := List.getElem_of_mem hf
    by_cases e : i = j
    · subst e
      have hm : g ∈ l.set i g := List.mem_iff_getElem.2 ⟨i, by rw [List.length_set]; exact hj, by simp⟩
      rw [List.getD_eq_getElem?_getD, List.getElem?_eq_getElem hj, Option.getD_some] at h1 h2
      have := hs g hm (sub_trans h1 hfs)
      rwa [h2] at this
    · have hm : l[j] ∈ l.set i g := List.mem_iff_getElem.2 ⟨j, by rw [List.length_set]; exact hj, by rw [List.getElem_set_ne e]⟩
      exact hs _ hm hfs
theorem eqv_redA {i a : Nat} {l : List Fd} : Eqv l (redA i l a) := by
  unfold redA
  split
  · rename_i hc
    rw [Bool.and_eq_true] at hc
    exact eqv_set hc.2 sub_and_r rfl
  · exact Eqv.refl l
theorem eqv_foldA {i : Nat} : ∀ (m : List Nat) (l : List Fd), Eqv l (m.foldl (redA i) l)
  | [], l => Eqv.refl l
  | a :: m, l => eqv_redA.trans (eqv_foldA m _)
theorem eqv_redT (l : List Fd) : ∀ i, Eqv l (redT l i)
  | 0 => Eqv.refl l
  | i + 1 => by rw [redT_succ]; exact (eqv_redT l i).trans (eqv_foldA _ _)
theorem eqv_others {l : List Fd} {i : Nat} (h : redB l i = true) : Eqv l (othersL l i) := fun s => by
  constructor
  · intro hs f hf
    exact hs f (mem_othersL hf)
  · intro hs f hf hfs
    obtain ⟨j, hj, rfl⟩ := List.getElem_of_mem hf
    by_cases e : j = i
    · subst e
      unfold redB at h
      rw [List.getD_eq_getElem?_getD, List.getElem?_eq_getElem hj, Option.getD_some] at h
      exact imp_closed h hs hfs
    · refine hs _ ?_ hfs
      unfold othersL
      rw [List.mem_append]
      by_cases h2 : j < i
      · exact .inl (List.mem_take_iff_getElem.2 ⟨j, by omega, rfl⟩)
      · exact .inr (List.mem_drop_iff_getElem.2 ⟨j - (i + 1), by omega, by congr 1; omega⟩)
theorem eqv_dropR : ∀ (f : Nat) (l : List Fd) (i : Nat), Eqv l (dropR f l i)
  | 0, l, i => Eqv.refl l
  | f + 1, l, i => by
    unfold dropR
    split
    · split
      · rename_i h; exact (eqv_others h).trans (eqv_dropR f _ _)
      · exact eqv_dropR f _ _
    · exact Eqv.refl l
theorem eqv_min (l : List Fd) : Eqv l (minS l) := by
  refine Eqv.trans ?_ (eqv_dropR _ _ _)
  unfold redAll
  refine Eqv.trans ?_ (eqv_mem fun f => mem_onceL.symm); refine Eqv.trans ?_ (eqv_redT _ _)
  unfold spl
  exact (eqv_split l).trans (eqv_mem fun f => mem_onceL.symm)
theorem clo_min (l : List Fd) (s : AS) : clo (minS l) s = clo l s := ((eqv_min l).clo s).symm
end Go.Hx
end
