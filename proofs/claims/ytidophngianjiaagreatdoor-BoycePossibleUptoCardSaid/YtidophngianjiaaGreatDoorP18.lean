/- A part of the proof: lemmas for the theorem of this claim, merged by a program of ours out of V3, Cl2, V4, Cs5. -/
import Derived.Test.YtidophngianjiaaGreatDoorP17
set_option linter.all false
section
namespace Go.Hx
open Go.Proofs
set_option maxRecDepth 100000
theorem good114 : goodFn Tryz.prog 114 := ⟨Tryz.f114, Tryz.func114, by kernel_rfl, by kernel_rfl⟩
theorem cCompact (l : List AS) : HFun Tryz.prog 114 [.one (.ref 900 l.length)] [(900, .arr true 1 38 l.length (lf sC l))] (.v (.one (.p (asl (cmp1 l))))) [] [] := by
 refine hfun_of (nt := 61) Tryzok Tryz.func114 rfl rfl l9 rfl ?_; refine hw_seq ?_
 refine hw_ba 900 rfl fun hlen => ?_
 refine gy ?_; refine qy ?_; refine rg_nil ?_; (iterate 2 refine hw_seq ?_); refine gy ?_; (iterate 3 refine qy ?_); refine rg_nil ?_; refine hw_cond _ rfl (fun r0 => ?_) (fun r0 => ?_)
 ·
  have h0 := of_decide_eq_true r0
  try simp only [ty] at h0
  refine hw_seq ?_; refine gy ?_; (iterate 2 refine qy ?_); refine rg_nil ?_; refine hw_freeze 2 rfl rfl rfl ?_; refine hw_ret ?_; refine ⟨.inr rfl, ?_⟩
  exact ⟨_, _, rfl, (by (repeat' apply And.intro) <;> first | trivial | exact Nat.le_of_ble_eq_true rfl), co_all1 (k := l.length) (Nat.le_refl _) (fun j h1 h2 => by omega), trivial⟩
 ·
  have h0 := of_decide_eq_false r0
  try simp only [ty] at h0
  refine hw_skip ?_; (iterate 2 refine hw_seq ?_); refine gy ?_; refine qy ?_; refine rg_nil ?_; refine hw_block ?_
  refine hw_loopK (ι := Nat) ⟨[(0, some _)], [(900, some _)]⟩ ⟨⟨c9, trivial⟩, ⟨u9, trivial⟩⟩ (fun k => ⟨[(3, some (vI k))], []⟩) (fun k => 1 ≤ k ∧ k ≤ l.length ∧ ∀ j, 0 < j → j < k → ¬ l.getD j default = l.getD (j - 1) default) (fun k => l.length - k) (1) (⟨Nat.le_refl _, by omega, fun j h1 h2 => by omega⟩) ⟨⟨zy, trivial⟩, trivial⟩ ?_
  rintro k ⟨hk1, hk, hI⟩
  (iterate 2 refine hw_seq ?_); refine gy ?_; (iterate 4 refine qy ?_); refine rg_nil ?_; refine hw_cond _ rfl (fun r1 => ?_) (fun r1 => ?_)
  ·
   have h1 := of_decide_eq_true r1
   try simp only [ty] at h1
   refine hw_skip ?_; refine hw_seq ?_; refine hw_block ?_; refine hw_seq ?_; refine hw_draw (E := TryzE) Tryzok Tryzmixed [0, 1, 2, 3, 4, 5, 6, 7, 8, 9] ?_; (iterate 10 refine qy ?_); refine rg_nil ?_; refine ⟨by kernel_rfl, ?_⟩
   refine hw_cond _ rfl (fun r2 => ?_) (fun r2 => ?_)
   ·
    have h2 := of_decide_eq_true r2
    try simp only [ty] at h2
    refine hw_seq ?_; refine gy ?_; (iterate 4 refine qy ?_); refine rg_nil ?_; (iterate 2 refine hw_seq ?_); refine gy ?_; refine qy ?_; refine rg_nil ?_; refine hw_block ?_
    refine hw_loopK (ι := Nat × Nat × List AS) ⟨[(0, some _), (4, some _)], []⟩ ⟨⟨c9, c9, trivial⟩, trivial⟩ (fun x => ⟨[(3, some (vI x.1)), (5, some (vI ((x.2.1 : Int) - k)))], [(900, some (.arr true 1 38 l.length (lf sC x.2.2)))]⟩) (fun x => CpI l k x.1 x.2.1 x.2.2) (fun x => l.length - x.2.1) ((k, k + 1, l)) (CpI.start hk1 (by omega) hI (eq_of_i (by assumption) rfl (by omega))) ⟨⟨zy, ⟨_, rfl, (coi (by first | rfl | (dsimp only; omega)))⟩, trivial⟩, ⟨u9, trivial⟩⟩ ?_
    rintro ⟨p, q, m⟩ hC
    have hC0 := hC
    obtain ⟨hml, hkq, hpq, hql, _, _⟩ := hC0
    dsimp only at hC hml hkq hpq hql
    (iterate 2 refine hw_seq ?_); refine gy ?_; (iterate 4 refine qy ?_); refine rg_nil ?_; refine hw_cond _ rfl (fun r3 => ?_) (fun r3 => ?_)
    ·
     have h3 := of_decide_eq_true r3
     try simp only [ty] at h3
     simp only [less, upTo, Int.toNat_natCast] at h3
     refine hw_skip ?_; refine hw_seq ?_; refine hw_block ?_; refine hw_seq ?_; refine hw_draw (E := TryzE) Tryzok Tryzmixed [0, 1, 2, 3, 4, 5, 6, 7, 8, 9] ?_; (iterate 10 refine qy ?_); refine rg_nil ?_
     refine ⟨by kernel_rfl, ?_⟩; refine hw_cond _ rfl (fun r4 => ?_) (fun r4 => ?_)
     ·
      have h4 := r4
      have h4 := of_decide_eq_false (not_t h4)
      try simp only [ty] at h4
      refine hw_seq ?_; refine gy ?_; (iterate 7 refine qy ?_); refine s9 ?_; refine rg_nil ?_; refine gy ?_; (iterate 3 refine qy ?_); refine rg_nil ?_; refine gy ?_; (iterate 3 refine qy ?_); refine rg_nil ?_
      first | (refine ⟨(p + 1, q + 1, m.set p (m.getD q default)), ?_, ?_, ?_⟩
               · exact hC.keep (by omega) (ne_of_i (by assumption) (by simp only [upTo]; omega) (by simp only [upTo]; omega))
               · first | omega | (dsimp only; omega)
               · exact ⟨⟨⟨_, rfl, (coi (by first | rfl | (dsimp only; omega)))⟩, ⟨_, rfl, (coi (by first | rfl | (dsimp only; omega)))⟩, c9, c9, trivial⟩, ⟨⟨_, rfl, (co_setE id hml.symm (by omega) (by dsimp only; omega) (by simp only [upTo]; omega))⟩, trivial⟩⟩)
            | (refine ⟨(p, q + 1, m), ?_, ?_, ?_⟩
               · exact hC.skip (by omega) (eq_of_i (by assumption) (by simp only [upTo]; omega) (by simp only [upTo]; omega))
               · first | omega | (dsimp only; omega)
               · exact ⟨⟨⟨_, rfl, (coi (by first | rfl | (dsimp only; omega)))⟩, ⟨_, rfl, (coi (by first | rfl | (dsimp only; omega)))⟩, c9, c9, trivial⟩, ⟨u9, trivial⟩⟩)
     ·
      have h4 := r4
      have h4 := of_decide_eq_true (not_f h4)
      try simp only [ty] at h4
      refine hw_skip ?_; refine gy ?_; (iterate 3 refine qy ?_); refine rg_nil ?_
      first | (refine ⟨(p + 1, q + 1, m.set p (m.getD q default)), ?_, ?_, ?_⟩
               · exact hC.keep (by omega) (ne_of_i (by assumption) (by simp only [upTo]; omega) (by simp only [upTo]; omega))
               · first | omega | (dsimp only; omega)
               · exact ⟨⟨⟨_, rfl, (coi (by first | rfl | (dsimp only; omega)))⟩, ⟨_, rfl, (coi (by first | rfl | (dsimp only; omega)))⟩, c9, c9, trivial⟩, ⟨⟨_, rfl, (co_setE id hml.symm (by omega) (by dsimp only; omega) (by simp only [upTo]; omega))⟩, trivial⟩⟩)
            | (refine ⟨(p, q + 1, m), ?_, ?_, ?_⟩
               · exact hC.skip (by omega) (eq_of_i (by assumption) (by simp only [upTo]; omega) (by simp only [upTo]; omega))
               · first | omega | (dsimp only; omega)
               · exact ⟨⟨⟨_, rfl, (coi (by first | rfl | (dsimp only; omega)))⟩, ⟨_, rfl, (coi (by first | rfl | (dsimp only; omega)))⟩, c9, c9, trivial⟩, ⟨u9, trivial⟩⟩)
    ·
     have h3 := of_decide_eq_false r3
     try simp only [ty] at h3
     simp only [less, upTo, Int.toNat_natCast] at h3
     refine hw_exit ?_; refine hw_seq ?_; refine gy ?_; (iterate 3 refine qy ?_); refine ra 0 true rfl rfl rfl rfl rfl rfl ?_; refine rg_nil ?_; refine hw_seq ?_; refine gy ?_; (iterate 2 refine qy ?_)
     refine rcut rfl rfl rfl rfl rfl ?_; refine qy ?_; refine rg_nil ?_; refine hw_ret ?_; refine ⟨.inr rfl, ?_⟩
     exact ⟨_, _, rfl, (by (repeat' apply And.intro) <;> first | trivial | exact Nat.le_of_ble_eq_true rfl), co_cutC hC (by omega) (by simp [upTo]), trivial⟩
   ·
    have h2 := of_decide_eq_false r2
    try simp only [ty] at h2
    refine hw_skip ?_; refine gy ?_; (iterate 3 refine qy ?_); refine rg_nil ?_; refine ⟨k + 1, ?_, ?_, ?_⟩
    · refine ⟨by omega, by show k + 1 ≤ _; omega, fun j h1 h2 => ?_⟩
      rcases Nat.lt_or_eq_of_le (Nat.le_of_lt_succ h2) with h | h
      · exact hI j h1 h
      · subst h
        exact ne_of_i (by assumption) rfl (by omega)
    · first | omega | (dsimp only; omega)
    · exact ⟨⟨zy, c9, trivial⟩, ⟨u9, trivial⟩⟩
  ·
   have h1 := of_decide_eq_false r1
   try simp only [ty] at h1
   refine hw_exit ?_; refine hw_seq ?_; refine gy ?_; (iterate 2 refine qy ?_); refine rg_nil ?_; refine hw_freeze 2 rfl rfl rfl ?_; refine hw_ret ?_; refine ⟨.inr rfl, ?_⟩
   exact ⟨_, _, rfl, (by (repeat' apply And.intro) <;> first | trivial | exact Nat.le_of_ble_eq_true rfl), co_all1 (k := k) (by omega) hI, trivial⟩
end Go.Hx
end
section
namespace Go.Hx
section
variable {α : Type} [Inhabited α] {p : α → Bool} {l : List α}
theorem idx_none (h : idx p l = -1) : ∀ j, j < l.length → p (l.getD j default) = false := fun j hj => by
 cases hc : p (l.getD j default) with
 | false => rfl
 | true =>
  exfalso
  have hx : ∃ x ∈ l, p x = true := ⟨l[j], List.getElem_mem hj, by simpa [List.getD, hj] using hc⟩
  unfold idx at h
  cases hf : l.findIdx? p with
  | none =>
   rw [List.findIdx?_eq_none_iff] at hf
   obtain ⟨x, hx, hp⟩ := hx
   rw [hf x hx] at hp
   cases hp
  | some i => rw [hf] at h; simp only at h; omega
theorem idx_some (h : ¬ idx p l = -1) : ∃ i : Nat, idx p l = i ∧ i < l.length ∧ p (l.getD i default) = true ∧ ∀ j, j < i → p (l.getD j default) = false := by
 unfold idx at h ⊢
 cases hf : l.findIdx? p with
 | none => rw [hf] at h; exact absurd rfl h
 | some i =>
  obtain ⟨h1, h2, h3⟩ := List.findIdx?_eq_some_iff_getElem.1 hf
  refine ⟨i, rfl, h1, by simpa [List.getD, h1] using h2, fun j hj => ?_⟩
  have := h3 j hj
  simp only [List.getD, List.getElem?_eq_getElem (Nat.lt_trans hj h1), Option.getD_some]
  simpa using this
theorem idx_ge : (decide (0 ≤ idx p l)) = l.any p := by
 unfold idx
 cases hf : l.findIdx? p with
 | none =>
  rw [List.findIdx?_eq_none_iff] at hf
  have : l.any p = false := by
   rw [List.any_eq_false]
   intro x hx
   rw [hf x hx]
   exact Bool.false_ne_true
  rw [this]; rfl
 | some i =>
  obtain ⟨h1, h2, _⟩ := List.findIdx?_eq_some_iff_getElem.1 hf
  have : l.any p = true := List.any_eq_true.2 ⟨l[i], List.getElem_mem h1, h2⟩
  rw [this]
  exact decide_eq_true (Int.natCast_nonneg i)
theorem filter_pre : ∀ {k : Nat}, k ≤ l.length → (∀ j, j < k → p (l.getD j default) = false) → (l.take k).filter (fun x => !p x) = l.take k
 | 0, _, _ => by simp
 | k + 1, hk, h => by rw [take_snoc (by omega), List.filter_append, filter_pre (by omega) fun j hj => h j (by omega)]; simp only [List.filter_cons, h k (by omega), Bool.not_false, if_true, List.filter_nil]
structure DfI (p : α → Bool) (l : List α) (k q : Nat) (m : List α) : Prop where
 len : m.length = l.length
 kq : k < q
 ql : q ≤ l.length
 pre : m.take k = (l.take q).filter fun x => !p x
 high : ∀ j, q ≤ j → m.getD j default = l.getD j default
theorem DfI.start {k : Nat} (hk : k < l.length) (h1 : p (l.getD k default) = true) (h : ∀ j, j < k → p (l.getD j default) = false) : DfI p l k (k + 1) l :=
 ⟨rfl, by omega, hk, by rw [take_snoc hk, List.filter_append, filter_pre (by omega) h]; simp only [List.filter_cons, h1, Bool.not_true, List.filter_nil, Bool.false_eq_true, if_false, List.append_nil], fun _ _ => rfl⟩
theorem DfI.skip {k q : Nat} {m : List α} (h : DfI p l k q m) (hq : q < l.length) (hp : p (m.getD q default) = true) : DfI p l k (q + 1) m := by
 rw [h.high q (Nat.le_refl _)] at hp
 exact ⟨h.len, by have := h.kq; omega, hq, by rw [take_snoc hq, List.filter_append, ← h.pre]; simp only [List.filter_cons, hp, Bool.not_true, List.filter_nil, Bool.false_eq_true, if_false, List.append_nil], fun j hj => h.high j (by omega)⟩
theorem DfI.keep {k q : Nat} {m : List α} (h : DfI p l k q m) (hq : q < l.length) (hp : p (m.getD q default) = false) : DfI p l (k + 1) (q + 1) (m.set k (m.getD q default)) := by
 have e := h.high q (Nat.le_refl _)
 rw [e] at hp ⊢
 have hk := h.kq
 have hl := h.len
 refine ⟨by simp [hl], by omega, hq, ?_, fun j hj => by rw [getD_set_ne' (by omega)]; exact h.high j (by omega)⟩
 rw [take_snoc (by simp [hl]; omega), getD_set_eq (by omega), take_snoc hq, List.filter_append, ← h.pre]
 simp only [List.filter_cons, hp, Bool.not_false, if_true, List.filter_nil]
 congr 1
 rw [List.take_set, List.set_eq_of_length_le (by simp; omega)]
end
section
variable {p : AS → Bool} {l : List AS}
theorem co_allF (h : ∀ j, j < l.length → p (l.getD j default) = false) : CoP (.sl l.length 1 false (lf sC l)) (asl (l.filter fun x => !p x)) := by
 have := filter_pre (Nat.le_refl l.length) h
 rw [List.take_length] at this
 rw [this]
 exact CoP.refl _
theorem co_cutF {m : List AS} {k q n a d : Nat} {cl : Bool} {z : List Value} (hC : DfI p l k q m) (hq : ¬ q < l.length) (ha : k ≤ a) : CoP (.sl (less (upTo n (some (k : Int))) none) 1 cl (from_ (setZ (lf sC m) a d z) none)) (asl (l.filter fun x => !p x)) := by
 have e := hC.pre
 have h1 := hC.ql
 have h2 := hC.len
 have h3 := hC.kq
 rw [show q = l.length by omega, List.take_length] at e
 have el : (l.filter fun x => !p x).length = k := by rw [← e]; simp; omega
 exact co_cutZ (by rw [el]; rfl) rfl (by omega) (by rw [el, e])
end
theorem asI_eq {a b : AS} : decide (asI a = asI b) = decide (a = b) := decide_eq_decide.2 asI_inj
instance : DecidableEq Fd := fun a b => decidable_of_iff (a.lhs = b.lhs ∧ a.rhs = b.rhs) Fd.eq_iff.symm
end Go.Hx
end
section
namespace Go.Hx
open Go.Proofs
set_option maxRecDepth 100000
set_option maxHeartbeats 1000000
theorem good22 : goodFn Tryz.prog 22 := ⟨Tryz.f22, Tryz.func22, by kernel_rfl, by kernel_rfl⟩
theorem clone75 (n : Nat) (c : Bool) (f : Nat → Nat → PV) (hn : n ≤ 35184372088832) :
 HFun Tryz.prog 22 [.one (.p (.sl n 1 c f))] [] (.v (.one (.ref 0 n))) [(0, .arr true 1 38 n f)] [] := by
 refine hfun_of (nt := 8) Tryzok Tryz.func22 rfl rfl l9 rfl ?_; refine hw_seq ?_; refine gy ?_; refine rg_quiet true rfl rfl rfl rfl rfl trivial ?_; refine rg_nil ?_
 refine hw_join (ι := Bool) (fun c => ⟨[(0, some (oneP (.sl n 1 c f)))], []⟩) (fun _ => True) ?_ fun c _ => ?_
 · rcases Nat.eq_zero_or_pos n with hz | h0
   · subst hz
     refine hw_exact' 0 rfl fun ad cap hcap => ?_
     refine hw_seq ?_; refine gy ?_; (iterate 2 refine rg_quiet true rfl rfl rfl rfl rfl trivial ?_); refine rg_nil ?_; refine hw_cond ad.isNone rfl (fun hc => ?_) (fun hc => ?_)
     · refine hw_seq ?_
       refine gy ?_; refine rg_quiet true rfl rfl rfl rfl rfl trivial ?_; refine rg_nil ?_
       refine hw_adopt 2 0 true 1 38 f (by decide) rfl (CoP.sl rfl (.inr rfl) (fun h => h) fun i j hi _ => absurd hi (Nat.not_lt_zero i)) (.inr rfl) rfl ?_; refine hw_ret ?_; refine ⟨.inr rfl, ?_⟩
       exact ⟨_, _, rfl, trivial, CoR.refl _, ⟨u9, trivial⟩⟩
     · refine hw_skip ?_
       exact ⟨false, trivial, ⟨⟨_, rfl, CoP.raw_sl hcap⟩, trivial⟩, trivial⟩
   · refine hw_seq ?_
     refine gy ?_; refine rg_quiet true rfl rfl rfl rfl rfl trivial ?_; refine rg_quiet true rfl rfl rfl rfl rfl h0 ?_; refine rg_nil ?_; refine hw_cond false rfl (fun hc => by cases hc) (fun hc => ?_); refine hw_skip ?_
     exact ⟨c, trivial, ⟨c9, trivial⟩, trivial⟩
 · refine hw_seq ?_
   refine gy ?_; refine rg_make 0 rfl rfl rfl rfl rfl rfl trivial ?_; refine rg_quiet true rfl rfl rfl rfl rfl trivial ?_
   refine rg_app 0 true rfl rfl rfl rfl rfl rfl ⟨trivial, rfl, rfl, rfl, .inl rfl, by show 0 + n ≤ 9223372036854775807; omega, by show (0 + n) * 4 ≤ 140737488355328; omega, fun _ => .inl rfl⟩ ?_
   refine rg_quiet true rfl rfl rfl rfl rfl trivial ?_; refine rg_nil ?_; refine hw_ret ?_; refine ⟨.inr rfl, ?_⟩
   refine ⟨_, _, rfl, trivial, CoR.of_eq (by show HR.v (.one (.ref 0 (0 + n))) = _; rw [Nat.zero_add]), ⟨⟨_, rfl, ?_⟩, trivial⟩⟩
   exact ⟨fun h => h, rfl, rfl, (Nat.zero_add n).symm, fun i j _ _ => CoP.of_eq (by simp [appF])⟩
theorem cloneP75 (n : Nat) (c : Bool) (f : Nat → Nat → PV) (hn : n ≤ 35184372088832) : HPure Tryz.prog 22 [.one (.sl n 1 c f)] (.v (.one (.sl n 1 false f))) :=
 HFun.pure (args := [.one (.sl n 1 c f)]) (l := [.one (.ref 0 n)]) (clone75 n c f hn) rfl ⟨rfl, trivial⟩
theorem good116 : goodFn Tryz.prog 116 := ⟨Tryz.f116, Tryz.func116, by kernel_rfl, by kernel_rfl⟩
theorem cIxFF (l : List Fd) (g k : Nat) (caps : Nat → PV) (V : Fd → Bool) (hg : goodFn Tryz.prog g) (hV : ∀ x, HPure Tryz.prog g (x.pc :: capsOf caps k 0) (prOf [pB (V x)])) : HPure Tryz.prog 116 [pP (fdl l), pP (.fn g k caps)] (prOf [pI (idx V l)]) := by
 refine hpure_of (nt := 19) Tryzok Tryz.func116 rfl rfl l9 ?_; refine hw_seq ?_
 refine hw_bt 0 rfl fun hn => ?_
 refine gy ?_; refine qy ?_; refine rg_nil ?_; refine hw_joinK (ι := Unit) ⟨[], []⟩ ⟨trivial, trivial⟩ (fun _i => ⟨[], []⟩) (fun _i => idx V l = -1) ?_ ?_
 ·
  refine hw_seq ?_; refine gy ?_; (iterate 3 refine qy ?_); refine rg_nil ?_; refine hw_block ?_
  refine hw_loopK (ι := Nat) ⟨[(0, some _), (1, some _), (7, some _)], []⟩ ⟨⟨c9, c9, c9, trivial⟩, trivial⟩ (fun i => ⟨[(8, some (vI i))], []⟩) (fun i => i ≤ l.length ∧ (∀ j, j < i → V (l.getD j default) = false)) (fun i => l.length - i) (0) (⟨Nat.zero_le _, all_zero⟩) ⟨⟨zy, trivial⟩, trivial⟩ ?_
  rintro i ⟨hi, hI⟩
  refine hw_seq ?_; refine gy ?_; refine qy ?_; refine rg_nil ?_; refine hw_seq ?_; refine hw_cond _ rfl (fun r0 => ?_) (fun r0 => ?_)
  ·
   have h0 := of_decide_eq_true r0
   try simp only [ty] at h0
   refine hw_skip ?_; refine hw_seq ?_; refine hw_block ?_; refine hw_seq ?_; refine gy ?_; (iterate 2 refine qy ?_); refine rg_nil ?_; refine hw_seq ?_; refine gy ?_; (iterate 5 refine qy ?_)
   refine rc rfl rfl rfl rfl rfl rfl hg (hV (l.getD i default)) (CoL.refl _) rfl rfl ?_; refine rg_nil ?_; refine hw_cond _ rfl (fun r1 => ?_) (fun r1 => ?_)
   ·
    have h1 := r1
    refine hw_seq ?_; refine gy ?_; (iterate 2 refine qy ?_); refine rg_nil ?_; refine hw_ret ?_; refine ⟨.inr rfl, ?_⟩
    exact f9 rfl rfl (⟨cci (idx_t (i := i) (by omega) hI h1).symm, trivial⟩)
   ·
    have h1 := r1
    refine hw_skip ?_; refine gy ?_; (iterate 2 refine qy ?_); refine rg_nil ?_; refine ⟨i + 1, ?_, ?_, ?_⟩
    · exact ⟨by show i + 1 ≤ _; omega, all_succ hI (h1)⟩
    · first | omega | (dsimp only; omega)
    · exact ⟨⟨zy, c9, c9, c9, trivial⟩, trivial⟩
  ·
   have h0 := of_decide_eq_false r0
   try simp only [ty] at h0
   refine hw_exit ?_; refine ⟨(), ?_, ?_⟩
   · exact idx_f fun j hj => hI j (by omega)
   · exact ⟨trivial, trivial⟩
 · rintro _ hj
   refine hw_seq ?_; refine gy ?_; refine qy ?_; refine rg_nil ?_; refine hw_ret ?_; refine ⟨.inr rfl, ?_⟩
   exact f9 rfl rfl (⟨cci hj.symm, trivial⟩)
theorem good121 : goodFn Tryz.prog 121 := ⟨Tryz.f121, Tryz.func121, by kernel_rfl, by kernel_rfl⟩
theorem cIxFS (l : List AS) (g k : Nat) (caps : Nat → PV) (V : AS → Bool) (hg : goodFn Tryz.prog g) (hV : ∀ x, HPure Tryz.prog g (pA x :: capsOf caps k 0) (prOf [pB (V x)])) : HPure Tryz.prog 121 [pP (asl l), pP (.fn g k caps)] (prOf [pI (idx V l)]) := by
 refine hpure_of (nt := 19) Tryzok Tryz.func121 rfl rfl l9 ?_; refine hw_seq ?_
 refine hw_bt 0 rfl fun hn => ?_
 refine gy ?_; refine qy ?_; refine rg_nil ?_; refine hw_joinK (ι := Unit) ⟨[], []⟩ ⟨trivial, trivial⟩ (fun _i => ⟨[], []⟩) (fun _i => idx V l = -1) ?_ ?_
 ·
  refine hw_seq ?_; refine gy ?_; (iterate 3 refine qy ?_); refine rg_nil ?_; refine hw_block ?_
  refine hw_loopK (ι := Nat) ⟨[(0, some _), (1, some _), (7, some _)], []⟩ ⟨⟨c9, c9, c9, trivial⟩, trivial⟩ (fun i => ⟨[(8, some (vI i))], []⟩) (fun i => i ≤ l.length ∧ (∀ j, j < i → V (l.getD j default) = false)) (fun i => l.length - i) (0) (⟨Nat.zero_le _, all_zero⟩) ⟨⟨zy, trivial⟩, trivial⟩ ?_
  rintro i ⟨hi, hI⟩
  refine hw_seq ?_; refine gy ?_; refine qy ?_; refine rg_nil ?_; refine hw_seq ?_; refine hw_cond _ rfl (fun r0 => ?_) (fun r0 => ?_)
  ·
   have h0 := of_decide_eq_true r0
   try simp only [ty] at h0
   refine hw_skip ?_; refine hw_seq ?_; refine hw_block ?_; refine hw_seq ?_; refine gy ?_; (iterate 2 refine qy ?_); refine rg_nil ?_; refine hw_seq ?_; refine gy ?_; (iterate 5 refine qy ?_)
   refine rc rfl rfl rfl rfl rfl rfl hg (hV (l.getD i default)) (CoL.refl _) rfl rfl ?_; refine rg_nil ?_; refine hw_cond _ rfl (fun r1 => ?_) (fun r1 => ?_)
   ·
    have h1 := r1
    refine hw_seq ?_; refine gy ?_; (iterate 2 refine qy ?_); refine rg_nil ?_; refine hw_ret ?_; refine ⟨.inr rfl, ?_⟩
    exact f9 rfl rfl (⟨cci (idx_t (i := i) (by omega) hI h1).symm, trivial⟩)
   ·
    have h1 := r1
    refine hw_skip ?_; refine gy ?_; (iterate 2 refine qy ?_); refine rg_nil ?_; refine ⟨i + 1, ?_, ?_, ?_⟩
    · exact ⟨by show i + 1 ≤ _; omega, all_succ hI (h1)⟩
    · first | omega | (dsimp only; omega)
    · exact ⟨⟨zy, c9, c9, c9, trivial⟩, trivial⟩
  ·
   have h0 := of_decide_eq_false r0
   try simp only [ty] at h0
   refine hw_exit ?_; refine ⟨(), ?_, ?_⟩
   · exact idx_f fun j hj => hI j (by omega)
   · exact ⟨trivial, trivial⟩
 · rintro _ hj
   refine hw_seq ?_; refine gy ?_; refine qy ?_; refine rg_nil ?_; refine hw_ret ?_; refine ⟨.inr rfl, ?_⟩
   exact f9 rfl rfl (⟨cci hj.symm, trivial⟩)
theorem good65 : goodFn Tryz.prog 65 := ⟨Tryz.f65, Tryz.func65, by kernel_rfl, by kernel_rfl⟩
theorem cCoFS (l : List AS) (g k : Nat) (caps : Nat → PV) (V : AS → Bool) (hg : goodFn Tryz.prog g) (hV : ∀ x, HPure Tryz.prog g (pA x :: capsOf caps k 0) (prOf [pB (V x)])) : HPure Tryz.prog 65 [pP (asl l), pP (.fn g k caps)] (prOf [pB (l.any V)]) := by
 refine hpure_of (nt := 9) Tryzok Tryz.func65 rfl rfl l9 ?_; refine hw_seq ?_; refine gy ?_; refine qy ?_; refine rg_nil ?_; refine hw_seq ?_; refine gy ?_; (iterate 2 refine qy ?_)
 refine rc rfl rfl rfl rfl rfl rfl good121 (cIxFS l g k caps V hg hV) (CoL.refl _) rfl rfl ?_; (iterate 2 refine qy ?_); refine rg_nil ?_; refine hw_ret ?_; refine ⟨.inr rfl, ?_⟩
 exact f9 rfl rfl (⟨ccb idx_ge, trivial⟩)
theorem good71 : goodFn Tryz.prog 71 := ⟨Tryz.f71, Tryz.func71, by kernel_rfl, by kernel_rfl⟩
theorem cIxS (l : List AS) (s : AS) : HPure Tryz.prog 71 [pP (asl l), pA s] (prOf [pI (idx (fun x => decide (x = s)) l)]) := by
 refine hpure_of (nt := 19) Tryzok Tryz.func71 rfl rfl l9 ?_; refine hw_seq ?_
 refine hw_bt 0 rfl fun hn => ?_
 refine gy ?_; refine qy ?_; refine rg_nil ?_; refine hw_joinK (ι := Unit) ⟨[], []⟩ ⟨trivial, trivial⟩ (fun _i => ⟨[], []⟩) (fun _i => idx (fun x => decide (x = s)) l = -1) ?_ ?_
 ·
  refine hw_seq ?_; refine gy ?_; (iterate 3 refine qy ?_); refine rg_nil ?_; refine hw_block ?_
  refine hw_loopK (ι := Nat) ⟨[(0, some _), (1, some _), (7, some _)], []⟩ ⟨⟨c9, c9, c9, trivial⟩, trivial⟩ (fun i => ⟨[(8, some (vI i))], []⟩) (fun i => i ≤ l.length ∧ (∀ j, j < i → decide (l.getD j default = s) = false)) (fun i => l.length - i) (0) (⟨Nat.zero_le _, all_zero⟩) ⟨⟨zy, trivial⟩, trivial⟩ ?_
  rintro i ⟨hi, hI⟩
  refine hw_seq ?_; refine gy ?_; refine qy ?_; refine rg_nil ?_; refine hw_seq ?_; refine hw_cond _ rfl (fun r0 => ?_) (fun r0 => ?_)
  ·
   have h0 := of_decide_eq_true r0
   try simp only [ty] at h0
   refine hw_skip ?_; refine hw_seq ?_; refine hw_block ?_; refine hw_seq ?_; refine gy ?_; (iterate 2 refine qy ?_); refine rg_nil ?_; refine hw_seq ?_; refine gy ?_; (iterate 6 refine qy ?_); refine rg_nil ?_
   refine hw_cond _ rfl (fun r1 => ?_) (fun r1 => ?_)
   ·
    have h1 := of_decide_eq_true r1
    try simp only [ty] at h1
    refine hw_seq ?_; refine gy ?_; (iterate 2 refine qy ?_); refine rg_nil ?_; refine hw_ret ?_; refine ⟨.inr rfl, ?_⟩
    exact f9 rfl rfl (⟨cci (idx_t (p := fun x => decide (x = s)) (i := i) (by omega) hI (decide_eq_true (asI_inj.1 h1).symm)).symm, trivial⟩)
   ·
    have h1 := of_decide_eq_false r1
    try simp only [ty] at h1
    refine hw_skip ?_; refine gy ?_; (iterate 2 refine qy ?_); refine rg_nil ?_; refine ⟨i + 1, ?_, ?_, ?_⟩
    · exact ⟨by show i + 1 ≤ _; omega, all_succ hI (decide_eq_false fun e => h1 (congrArg asI e.symm))⟩
    · first | omega | (dsimp only; omega)
    · exact ⟨⟨zy, c9, c9, c9, trivial⟩, trivial⟩
  ·
   have h0 := of_decide_eq_false r0
   try simp only [ty] at h0
   refine hw_exit ?_; refine ⟨(), ?_, ?_⟩
   · exact idx_f (p := fun x => decide (x = s)) fun j hj => hI j (by omega)
   · exact ⟨trivial, trivial⟩
 · rintro _ hj
   refine hw_seq ?_; refine gy ?_; refine qy ?_; refine rg_nil ?_; refine hw_ret ?_; refine ⟨.inr rfl, ?_⟩
   exact f9 rfl rfl (⟨cci hj.symm, trivial⟩)
theorem good235 : goodFn Tryz.prog 235 := ⟨Tryz.f235, Tryz.func235, by kernel_rfl, by kernel_rfl⟩
theorem cIxF (l : List Fd) (s : Fd) : HPure Tryz.prog 235 [pP (fdl l), s.pc] (prOf [pI (idx (fun x => decide (x = s)) l)]) := by
 refine hpure_of (nt := 19) Tryzok Tryz.func235 rfl rfl l9 ?_; refine hw_seq ?_
 refine hw_bt 0 rfl fun hn => ?_
 refine gy ?_; refine m9 0 ?_; refine qy ?_; refine rg_nil ?_; refine hw_joinK (ι := Unit) ⟨[], []⟩ ⟨trivial, trivial⟩ (fun _i => ⟨[], []⟩) (fun _i => idx (fun x => decide (x = s)) l = -1) ?_ ?_
 ·
  refine hw_seq ?_; refine gy ?_; (iterate 3 refine qy ?_); refine rg_nil ?_; refine hw_block ?_
  refine hw_loopK (ι := Nat) ⟨[(0, some _), (3, some _), (7, some _)], [(0, some _)]⟩ ⟨⟨c9, c9, c9, trivial⟩, ⟨u9, trivial⟩⟩ (fun i => ⟨[(8, some (vI i))], []⟩) (fun i => i ≤ l.length ∧ (∀ j, j < i → decide (l.getD j default = s) = false)) (fun i => l.length - i) (0) (⟨Nat.zero_le _, all_zero⟩) ⟨⟨zy, trivial⟩, trivial⟩ ?_
  rintro i ⟨hi, hI⟩
  refine hw_seq ?_; refine gy ?_; refine qy ?_; refine rg_nil ?_; refine hw_seq ?_; refine hw_cond _ rfl (fun r0 => ?_) (fun r0 => ?_)
  ·
   have h0 := of_decide_eq_true r0
   try simp only [ty] at h0
   refine hw_skip ?_; refine hw_seq ?_; refine hw_block ?_; refine hw_seq ?_; refine gy ?_; (iterate 2 refine qy ?_); refine rg_nil ?_; refine hw_seq ?_; refine hw_draw (E := TryzE) Tryzok Tryzmixed [0, 1, 2, 3, 4, 5] ?_
   (iterate 6 refine qy ?_); refine rg_nil ?_; refine ⟨by kernel_rfl, ?_⟩; refine hw_cond _ rfl (fun r1 => ?_) (fun r1 => ?_)
   ·
    have h1 := r1
    refine hw_seq ?_; refine gy ?_; (iterate 2 refine qy ?_); refine rg_nil ?_; refine hw_ret ?_; refine ⟨.inr rfl, ?_⟩
    exact f9 rfl rfl (⟨cci (idx_t (p := fun x => decide (x = s)) (i := i) (by omega) hI (decide_eq_true (by simp_all [Fd.eq_iff, asI_inj]))).symm, trivial⟩)
   ·
    have h1 := r1
    refine hw_skip ?_; refine gy ?_; (iterate 2 refine qy ?_); refine rg_nil ?_; refine ⟨i + 1, ?_, ?_, ?_⟩
    · exact ⟨by show i + 1 ≤ _; omega, all_succ hI (decide_eq_false fun e => by subst e; simp_all)⟩
    · first | omega | (dsimp only; omega)
    · exact ⟨⟨zy, c9, c9, c9, trivial⟩, ⟨u9, trivial⟩⟩
  ·
   have h0 := of_decide_eq_false r0
   try simp only [ty] at h0
   refine hw_exit ?_; refine ⟨(), ?_, ?_⟩
   · exact idx_f (p := fun x => decide (x = s)) fun j hj => hI j (by omega)
   · exact ⟨trivial, trivial⟩
 · rintro _ hj
   refine hw_seq ?_; refine gy ?_; refine qy ?_; refine rg_nil ?_; refine hw_ret ?_; refine ⟨.inr rfl, ?_⟩
   exact f9 rfl rfl (⟨cci hj.symm, trivial⟩)
theorem good227 : goodFn Tryz.prog 227 := ⟨Tryz.f227, Tryz.func227, by kernel_rfl, by kernel_rfl⟩
theorem cCoF (l : List Fd) (s : Fd) : HPure Tryz.prog 227 [pP (fdl l), s.pc] (prOf [pB (l.any fun x => decide (x = s))]) := by
 refine hpure_of (nt := 9) Tryzok Tryz.func227 rfl rfl l9 ?_; refine hw_seq ?_; refine gy ?_; refine m9 0 ?_; refine qy ?_; refine rg_nil ?_; refine hw_seq ?_; refine gy ?_; (iterate 2 refine qy ?_)
 refine rc rfl rfl rfl rfl rfl rfl good235 (cIxF _ _) (CoL.refl _) rfl rfl ?_; (iterate 2 refine qy ?_); refine rg_nil ?_; refine hw_ret ?_; refine ⟨.inr rfl, ?_⟩
 exact f9 rfl rfl (⟨ccb idx_ge, trivial⟩)
theorem good122 : goodFn Tryz.prog 122 := ⟨Tryz.f122, Tryz.func122, by kernel_rfl, by kernel_rfl⟩
theorem cDelF (l : List AS) (g k : Nat) (caps : Nat → PV) (V : AS → Bool) (hg : goodFn Tryz.prog g) (hV : ∀ x, HPure Tryz.prog g (pA x :: capsOf caps k 0) (prOf [pB (V x)])) : HFun Tryz.prog 122 [.one (.ref 900 l.length), .one (.p (.fn g k caps))] [(900, .arr true 1 38 l.length (lf sC l))] (.v (.one (.p (asl (l.filter fun x => !V x))))) [] [] := by
 refine hfun_of (nt := 42) Tryzok Tryz.func122 rfl rfl l9 rfl ?_; refine hw_seq ?_
 refine hw_ba 900 rfl fun hlen => ?_
 refine gy ?_; refine qy ?_; refine rg_nil ?_; refine hw_seq ?_; refine gy ?_; (iterate 2 refine qy ?_); refine rc rfl rfl rfl rfl rfl rfl good121 (cIxFS l g k caps V hg hV) (CoL.refl _) rfl rfl ?_; refine qy ?_; refine rg_nil ?_
 (iterate 2 refine hw_seq ?_); refine gy ?_; (iterate 2 refine qy ?_); refine rg_nil ?_; refine hw_cond _ rfl (fun r0 => ?_) (fun r0 => ?_)
 ·
  have h0 := of_decide_eq_true r0
  try simp only [ty] at h0
  refine hw_seq ?_; refine gy ?_; (iterate 2 refine qy ?_); refine rg_nil ?_; refine hw_freeze 4 rfl rfl rfl ?_; refine hw_ret ?_; refine ⟨.inr rfl, ?_⟩
  exact ⟨_, _, rfl, (by (repeat' apply And.intro) <;> first | trivial | exact Nat.le_of_ble_eq_true rfl), co_allF (idx_none (by assumption)), trivial⟩
 ·
  have h0 := of_decide_eq_false r0
  try simp only [ty] at h0
  obtain ⟨i0, hi0, hi1, hi2, hi3⟩ := idx_some h0
  refine hw_skip ?_; (iterate 2 refine hw_seq ?_); refine gy ?_; (iterate 3 refine qy ?_); refine rg_nil ?_; refine hw_block ?_
  refine hw_loopK (ι := Nat × Nat × List AS) ⟨[(0, some _), (1, some _)], []⟩ ⟨⟨c9, c9, trivial⟩, trivial⟩ (fun x => ⟨[(5, some (vI x.1)), (6, some (vI x.2.1))], [(900, some (.arr true 1 38 l.length (lf sC x.2.2)))]⟩) (fun x => DfI V l x.1 x.2.1 x.2.2) (fun x => l.length - x.2.1) ((i0, i0 + 1, l)) (DfI.start hi1 hi2 hi3) ⟨⟨⟨_, rfl, (coi hi0)⟩, ⟨_, rfl, (coi (by dsimp only; omega))⟩, trivial⟩, ⟨u9, trivial⟩⟩ ?_
  rintro x hC
  have hC0 := hC
  obtain ⟨hml, hkq, hql, _, _⟩ := hC0
  (iterate 2 refine hw_seq ?_); refine gy ?_; (iterate 4 refine qy ?_); refine rg_nil ?_; refine hw_cond _ rfl (fun r1 => ?_) (fun r1 => ?_)
  ·
   have h1 := of_decide_eq_true r1
   try simp only [ty] at h1
   refine hw_skip ?_; refine hw_seq ?_; refine hw_block ?_; refine hw_seq ?_; refine gy ?_; (iterate 5 refine qy ?_); refine rg_nil ?_; refine hw_seq ?_; refine gy ?_; (iterate 2 refine qy ?_)
   refine rc rfl rfl rfl rfl rfl rfl hg (hV (x.2.2.getD (x.2.1 : Int).toNat default)) (CoL.refl _) rfl rfl ?_; refine qy ?_; refine rg_nil ?_; refine hw_cond _ rfl (fun r2 => ?_) (fun r2 => ?_)
   ·
    have h2 := r2
    have h2 := not_t h2
    have hv := h2
    refine hw_seq ?_; refine gy ?_; (iterate 4 refine qy ?_); refine s9 ?_; refine rg_nil ?_; refine gy ?_; (iterate 3 refine qy ?_); refine rg_nil ?_; refine gy ?_; (iterate 3 refine qy ?_); refine rg_nil ?_
    first | (refine ⟨(x.1 + 1, x.2.1 + 1, x.2.2.set x.1 (x.2.2.getD x.2.1 default)), ?_, ?_, ?_⟩
             · exact hC.keep (by omega) (by simpa using hv)
             · first | omega | (dsimp only; omega)
             · exact ⟨⟨⟨_, rfl, (coi (by first | rfl | (dsimp only; omega)))⟩, ⟨_, rfl, (coi (by first | rfl | (dsimp only; omega)))⟩, c9, c9, trivial⟩, ⟨⟨_, rfl, (co_setE id hml.symm (by omega) (by omega) (by omega))⟩, trivial⟩⟩)
          | (refine ⟨(x.1, x.2.1 + 1, x.2.2), ?_, ?_, ?_⟩
             · exact hC.skip (by omega) (by simpa using hv)
             · first | omega | (dsimp only; omega)
             · exact ⟨⟨⟨_, rfl, (coi (by first | rfl | (dsimp only; omega)))⟩, ⟨_, rfl, (coi (by first | rfl | (dsimp only; omega)))⟩, c9, c9, trivial⟩, ⟨u9, trivial⟩⟩)
   ·
    have h2 := r2
    have h2 := not_f h2
    have hv := h2
    refine hw_skip ?_; refine gy ?_; (iterate 3 refine qy ?_); refine rg_nil ?_
    first | (refine ⟨(x.1 + 1, x.2.1 + 1, x.2.2.set x.1 (x.2.2.getD x.2.1 default)), ?_, ?_, ?_⟩
             · exact hC.keep (by omega) (by simpa using hv)
             · first | omega | (dsimp only; omega)
             · exact ⟨⟨⟨_, rfl, (coi (by first | rfl | (dsimp only; omega)))⟩, ⟨_, rfl, (coi (by first | rfl | (dsimp only; omega)))⟩, c9, c9, trivial⟩, ⟨⟨_, rfl, (co_setE id hml.symm (by omega) (by omega) (by omega))⟩, trivial⟩⟩)
          | (refine ⟨(x.1, x.2.1 + 1, x.2.2), ?_, ?_, ?_⟩
             · exact hC.skip (by omega) (by simpa using hv)
             · first | omega | (dsimp only; omega)
             · exact ⟨⟨⟨_, rfl, (coi (by first | rfl | (dsimp only; omega)))⟩, ⟨_, rfl, (coi (by first | rfl | (dsimp only; omega)))⟩, c9, c9, trivial⟩, ⟨u9, trivial⟩⟩)
  ·
   have h1 := of_decide_eq_false r1
   try simp only [ty] at h1
   have hq := h1
   refine hw_exit ?_; refine hw_seq ?_; refine gy ?_; (iterate 3 refine qy ?_); refine ra 0 true rfl rfl rfl rfl rfl rfl ?_; refine rg_nil ?_; refine hw_seq ?_; refine gy ?_; (iterate 2 refine qy ?_)
   refine rcut rfl rfl rfl rfl rfl ?_; refine qy ?_; refine rg_nil ?_; refine hw_ret ?_; refine ⟨.inr rfl, ?_⟩
   exact ⟨_, _, rfl, (by (repeat' apply And.intro) <;> first | trivial | exact Nat.le_of_ble_eq_true rfl), co_cutF hC (by omega) (by simp [upTo]), trivial⟩
end Go.Hx
end
section
namespace Go.Hx
def hasI (s : AS) (i : Int) : Bool := decide (0 ≤ i ∧ i < 32) && s.getLsbD i.toNat
theorem hasI_nat {s : AS} {i : Nat} (h : i < 32) : hasI s i = s.getLsbD i := by
 unfold hasI
 rw [decide_eq_true (by omega)]
 simp
theorem has_v {s : AS} {i : Int} (h0 : 0 ≤ i) (h1 : i < 32) : decide (bitV .and .u32 ((asI s).fdiv (2 ^ (min i.toNat 32))) 1 = 1) = hasI s i := by
 unfold hasI
 rw [bShr, show (1 : Int) = asI 1 from rfl, bAnd, decide_eq_true (show 0 ≤ i ∧ i < 32 from ⟨h0, h1⟩), Bool.true_and]
 have e : asI (s >>> i.toNat &&& 1) = asI 1 ↔ s.getLsbD i.toNat = true := by
  rw [asI_inj]
  constructor
  · intro h
    have := congrArg (fun x : AS => x.getLsbD 0) h
    simpa using this
  · intro h
    apply BitVec.eq_of_getLsbD_eq
    intro k hk
    have h1 : (1 : AS).getLsbD k = decide (k = 0) := by have := bit_one 0 k hk; simpa using this
    rw [BitVec.getLsbD_and, BitVec.getLsbD_ushiftRight, h1]
    by_cases hk0 : k = 0
    · subst hk0; simp [h]
    · simp [hk0]
 cases hb : s.getLsbD i.toNat with
 | true => exact decide_eq_true (e.2 hb)
 | false => exact decide_eq_false fun h => by rw [e.1 h] at hb; cases hb
theorem hasI_f {s : AS} {i : Int} (h : ¬ (0 ≤ i ∧ i < 32)) : hasI s i = false := by
 unfold hasI
 rw [decide_eq_false h]
 rfl
theorem fullS_ofNat {n : Nat} (h : n ≤ 32) : fullS n = BitVec.ofNat 32 (2 ^ n - 1) := by
 apply BitVec.eq_of_getLsbD_eq
 intro k hk
 rw [fullS_bit n k hk, BitVec.getLsbD_ofNat, Nat.testBit_two_pow_sub_one]
 simp [hk]
theorem fullS_toNat {n : Nat} (h : n ≤ 32) : (fullS n).toNat = 2 ^ n - 1 := by
 have h2 : 2 ^ n ≤ 2 ^ 32 := Nat.pow_le_pow_right (by omega) h
 have h3 : 0 < 2 ^ n := Nat.two_pow_pos n
 rw [fullS_ofNat h, BitVec.toNat_ofNat, Nat.mod_eq_of_lt (by omega)]
theorem vErr_ok {n : Int} {l : List Fd} (h : vErr n l = 0) : 0 ≤ n ∧ n ≤ 16 ∧ l.length ≤ 64 ∧ l.all (inU n) = true := by
 unfold vErr at h
 split at h
 · cases h
 · split at h
   · cases h
   · split at h
     · rename_i h1 h2 h3
       exact ⟨by omega, by omega, by omega, h3⟩
     · cases h
theorem full_v {n : Int} (h0 : 0 ≤ n) (h1 : n ≤ 16) : IntKind.wrap .u32 (1 * 2 ^ (min n.toNat 32)) - 1 = asI (fullI n) := by
 have h2 : 2 ^ n.toNat ≤ 2 ^ 16 := Nat.pow_le_pow_right (by omega) (by omega)
 have h3 : 0 < 2 ^ n.toNat := Nat.two_pow_pos _
 rw [show IntKind.wrap .u32 (1 * 2 ^ (min n.toNat 32)) = asI ((1 : AS) <<< n.toNat) from bShl 1 n.toNat]
 unfold fullI asI
 rw [Nat.min_eq_left (by omega), fullS_toNat (by omega), BitVec.toNat_shiftLeft, Nat.shiftLeft_eq]
 rw [show (1 : AS).toNat = 1 from rfl, Nat.one_mul, Nat.mod_eq_of_lt (by omega)]
 omega
theorem shr_v {s : AS} {n : Int} (h0 : 0 ≤ n) (h1 : n ≤ 16) : (asI s).fdiv (2 ^ (min n.toNat 32)) = 0 ↔ sub s (fullI n) := by
 rw [bShr, show (0 : Int) = asI 0 from rfl, asI_inj]
 unfold fullI
 rw [Nat.min_eq_left (by omega)]
 exact (within_iff (by omega)).symm
theorem full_pre {n : Int} (h0 : 0 ≤ n) (h1 : n ≤ 16) : 0 ≤ IntKind.wrap .u32 (1 * 2 ^ (min n.toNat 32)) - 1 := by rw [full_v h0 h1]; exact asI_nn _
theorem full_pre2 {n : Int} (h0 : 0 ≤ n) (h1 : n ≤ 16) : IntKind.wrap .u32 (1 * 2 ^ (min n.toNat 32)) - 1 ≤ 4294967295 := by rw [full_v h0 h1]; have := asI_lt (fullI n); omega
theorem asl_same {a b : List AS} (h : a.length = b.length) (hI : ∀ j, j < a.length → decide (a.getD j default = b.getD j default) = true) : a = b := list_eq h fun j hj => of_decide_eq_true (hI j hj)
def skey (n : Int) (l : List Fd) (s : AS) : Bool := decide (vErr n l = 0 ∧ sub s (fullI n) ∧ clo l s = fullI n)
section
variable {n : Int} {l : List Fd} {s : AS}
theorem sk_f1 (h : ¬ vErr n l = 0) : skey n l s = false := decide_eq_false fun e => h e.1
theorem sk_t (h : vErr n l = 0) (h2 : (asI s).fdiv (2 ^ (min n.toNat 32)) = 0) : decide (asI (clo l s) = asI (fullI n)) = skey n l s := by
 have hv := vErr_ok h
 have h3 := (shr_v hv.1 hv.2.1).1 h2
 exact decide_eq_decide.2 ⟨fun e => ⟨h, h3, asI_inj.1 e⟩, fun e => congrArg asI e.2.2⟩
theorem sk_f2 (h : vErr n l = 0) (h2 : ¬ (asI s).fdiv (2 ^ (min n.toNat 32)) = 0) : skey n l s = false := by
 have hv := vErr_ok h
 exact decide_eq_false fun e => h2 ((shr_v hv.1 hv.2.1).2 e.2.1)
theorem sk_g (h2 : ¬ bitV .andNot .u32 (asI s) (asI (fullI n)) = 0) : skey n l s = false := decide_eq_false fun e => h2 (sub_iff_not.2 e.2.1)
theorem sk_u (h : vErr n l = 0) (h2 : sub s (fullI n)) : decide (asI (clo l s) = asI (fullI n)) = skey n l s := decide_eq_decide.2 ⟨fun e => ⟨h, h2, asI_inj.1 e⟩, fun e => congrArg asI e.2.2⟩
end
def errS (n : Int) (l : List Fd) (m : Int) : Int := if vErr n l = 0 then (if m < n then 3 else 0) else vErr n l
structure Dp where
 l : BitVec 8
 r : BitVec 8
deriving Inhabited
def Dp.c (d : Dp) : Nat → PV
 | 0 => .raw (.int .u8 (d.l.toNat : Int))
 | 1 => .raw (.int .u8 (d.r.toNat : Int))
 | _ => .any
abbrev dpl (l : List Dp) : PV := psl 2 Dp.c l
def Dp.fd (n : Int) (d : Dp) : Fd := ⟨d.l.setWidth 32 &&& fullI n, d.r.setWidth 32 &&& fullI n⟩
theorem u8_and (b : BitVec 8) (t : AS) : bitV .and .u32 (b.toNat : Int) (asI t) = asI (b.setWidth 32 &&& t) := by
 have h := b.isLt
 have e : asI (b.setWidth 32) = (b.toNat : Int) := by
  unfold asI
  rw [BitVec.toNat_setWidth, Nat.mod_eq_of_lt (by omega)]
 rw [← bAnd, e]
end Go.Hx
end
