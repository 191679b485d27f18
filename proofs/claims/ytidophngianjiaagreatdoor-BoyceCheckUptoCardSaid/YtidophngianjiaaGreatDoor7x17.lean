/- A part of the proof: V3 Cl2 V4 Cs5 V5 Cs2. -/
import Derived.Test.YtidophngianjiaaGreatDoor7x16
set_option linter.all false
section
namespace Go.Hx
open Go.Proofs
set_option maxRecDepth 100000
theorem ads : goodFn Tryz.prog 114 := ⟨Tryz.f114, Tryz.func114, by kernel_rfl, by kernel_rfl⟩
theorem an4 (l : List AS) : d7 Tryz.prog 114 [.one (.ref 900 l.length)] [(900, .arr true 1 38 l.length (lf sC l))] (.v (.one (.p (asl (fv l))))) [] [] := by
 refine eu (nt := 61) af Tryz.func114 rfl rfl l9 rfl ?_; refine a7 ?_
 refine a3c 900 rfl fun hlen => ?_
 refine gy ?_; refine qy ?_; refine a6 ?_; refine a7 ?_; refine sx7 ?_; (iterate 3 refine qy ?_); refine a6 ?_; refine a8 _ rfl (fun r0 => ?_) (fun r0 => ?_)
 ·
  have h0 := of_decide_eq_true r0
  try simp only [ty] at h0
  refine sx7 ?_; (iterate 2 refine qy ?_); refine a6 ?_; refine bu 2 rfl rfl rfl ?_; refine ap ?_; refine ⟨.inr rfl, ?_⟩
  exact ⟨_, _, rfl, (by (repeat' apply And.intro) <;> first | trivial | exact Nat.le_of_ble_eq_true rfl), acu (k := l.length) (Nat.le_refl _) (fun j h1 h2 => by omega), trivial⟩
 ·
  have h0 := of_decide_eq_false r0
  try simp only [ty] at h0
  refine aa ?_; refine a7 ?_; refine sx7 ?_; refine qy ?_; refine a6 ?_; refine ae ?_
  refine ak (ι := Nat) ⟨[(0, some _)], [(900, some _)]⟩ ⟨⟨c9, trivial⟩, ⟨u9, trivial⟩⟩ (fun k => ⟨[(3, some (vI k))], []⟩) (fun k => 1 ≤ k ∧ k ≤ l.length ∧ ∀ j, 0 < j → j < k → ¬ l.getD j default = l.getD (j - 1) default) (fun k => l.length - k) (1) (⟨Nat.le_refl _, by omega, fun j h1 h2 => by omega⟩) ⟨⟨zy, trivial⟩, trivial⟩ ?_
  rintro k ⟨hk1, hk, hI⟩
  refine a7 ?_; refine sx7 ?_; (iterate 4 refine qy ?_); refine a6 ?_; refine a8 _ rfl (fun r1 => ?_) (fun r1 => ?_)
  ·
   have h1 := of_decide_eq_true r1
   try simp only [ty] at h1
   refine aa ?_; refine a7 ?_; refine ae ?_; refine a7 ?_; refine ay (E := b6) af au [0, 1, 2, 3, 4, 5, 6, 7, 8, 9] ?_; (iterate 10 refine qy ?_); refine a6 ?_; refine ⟨by kernel_rfl, ?_⟩
   refine a8 _ rfl (fun r2 => ?_) (fun r2 => ?_)
   ·
    have h2 := of_decide_eq_true r2
    try simp only [ty] at h2
    refine sx7 ?_; (iterate 4 refine qy ?_); refine a6 ?_; refine a7 ?_; refine sx7 ?_; refine qy ?_; refine a6 ?_; refine ae ?_
    refine ak (ι := Nat × Nat × List AS) ⟨[(0, some _), (4, some _)], []⟩ ⟨⟨c9, c9, trivial⟩, trivial⟩ (fun x => ⟨[(3, some (vI x.1)), (5, some (vI ((x.2.1 : Int) - k)))], [(900, some (.arr true 1 38 l.length (lf sC x.2.2)))]⟩) (fun x => CpI l k x.1 x.2.1 x.2.2) (fun x => l.length - x.2.1) ((k, k + 1, l)) (CpI.start hk1 (by omega) hI (qh (by assumption) rfl (by omega))) ⟨⟨zy, ⟨_, rfl, (coi (by first | rfl | (dsimp only; omega)))⟩, trivial⟩, ⟨u9, trivial⟩⟩ ?_
    rintro ⟨p, q, m⟩ hC
    have hC0 := hC
    obtain ⟨hml, hkq, hpq, hql, _, _⟩ := hC0
    dsimp only at hC hml hkq hpq hql
    refine a7 ?_; refine sx7 ?_; (iterate 4 refine qy ?_); refine a6 ?_; refine a8 _ rfl (fun r3 => ?_) (fun r3 => ?_)
    ·
     have h3 := of_decide_eq_true r3
     try simp only [ty] at h3
     simp only [dq, bd, Int.toNat_natCast] at h3
     refine aa ?_; refine a7 ?_; refine ae ?_; refine a7 ?_; refine ay (E := b6) af au [0, 1, 2, 3, 4, 5, 6, 7, 8, 9] ?_; (iterate 10 refine qy ?_); refine a6 ?_
     refine ⟨by kernel_rfl, ?_⟩; refine a8 _ rfl (fun r4 => ?_) (fun r4 => ?_)
     ·
      have h4 := r4
      have h4 := of_decide_eq_false (az h4)
      try simp only [ty] at h4
      refine sx7 ?_; (iterate 7 refine qy ?_); refine s9 ?_; refine a6 ?_; refine gy ?_; (iterate 3 refine qy ?_); refine a6 ?_; refine gy ?_; (iterate 3 refine qy ?_); refine a6 ?_
      first | (refine ⟨(p + 1, q + 1, m.set p (m.getD q default)), ?_, ?_, ?_⟩
               · exact hC.keep (by omega) (qg (by assumption) (by simp only [bd]; omega) (by simp only [bd]; omega))
               · first | omega | (dsimp only; omega)
               · exact ⟨⟨⟨_, rfl, (coi (by first | rfl | (dsimp only; omega)))⟩, ⟨_, rfl, (coi (by first | rfl | (dsimp only; omega)))⟩, c9, c9, trivial⟩, ⟨⟨_, rfl, (mi id hml.symm (by omega) (by dsimp only; omega) (by simp only [bd]; omega))⟩, trivial⟩⟩)
            | (refine ⟨(p, q + 1, m), ?_, ?_, ?_⟩
               · exact hC.skip (by omega) (qh (by assumption) (by simp only [bd]; omega) (by simp only [bd]; omega))
               · first | omega | (dsimp only; omega)
               · exact ⟨⟨⟨_, rfl, (coi (by first | rfl | (dsimp only; omega)))⟩, ⟨_, rfl, (coi (by first | rfl | (dsimp only; omega)))⟩, c9, c9, trivial⟩, ⟨u9, trivial⟩⟩)
     ·
      have h4 := r4
      have h4 := of_decide_eq_true (b4 h4)
      try simp only [ty] at h4
      refine aa ?_; refine gy ?_; (iterate 3 refine qy ?_); refine a6 ?_
      first | (refine ⟨(p + 1, q + 1, m.set p (m.getD q default)), ?_, ?_, ?_⟩
               · exact hC.keep (by omega) (qg (by assumption) (by simp only [bd]; omega) (by simp only [bd]; omega))
               · first | omega | (dsimp only; omega)
               · exact ⟨⟨⟨_, rfl, (coi (by first | rfl | (dsimp only; omega)))⟩, ⟨_, rfl, (coi (by first | rfl | (dsimp only; omega)))⟩, c9, c9, trivial⟩, ⟨⟨_, rfl, (mi id hml.symm (by omega) (by dsimp only; omega) (by simp only [bd]; omega))⟩, trivial⟩⟩)
            | (refine ⟨(p, q + 1, m), ?_, ?_, ?_⟩
               · exact hC.skip (by omega) (qh (by assumption) (by simp only [bd]; omega) (by simp only [bd]; omega))
               · first | omega | (dsimp only; omega)
               · exact ⟨⟨⟨_, rfl, (coi (by first | rfl | (dsimp only; omega)))⟩, ⟨_, rfl, (coi (by first | rfl | (dsimp only; omega)))⟩, c9, c9, trivial⟩, ⟨u9, trivial⟩⟩)
    ·
     have h3 := of_decide_eq_false r3
     try simp only [ty] at h3
     simp only [dq, bd, Int.toNat_natCast] at h3
     refine am ?_; refine sx7 ?_; (iterate 3 refine qy ?_); refine ra 0 true rfl rfl rfl rfl rfl rfl ?_; refine a6 ?_; refine sx7 ?_; (iterate 2 refine qy ?_); refine aot rfl rfl rfl rfl rfl ?_; refine qy ?_
     refine a6 ?_; refine ap ?_; refine ⟨.inr rfl, ?_⟩
     exact ⟨_, _, rfl, (by (repeat' apply And.intro) <;> first | trivial | exact Nat.le_of_ble_eq_true rfl), asa hC (by omega) (by simp [bd]), trivial⟩
   ·
    have h2 := of_decide_eq_false r2
    try simp only [ty] at h2
    refine aa ?_; refine gy ?_; (iterate 3 refine qy ?_); refine a6 ?_; refine ⟨k + 1, ?_, ?_, ?_⟩
    · refine ⟨by omega, by show k + 1 ≤ _; omega, fun j h1 h2 => ?_⟩
      rcases Nat.lt_or_eq_of_le (Nat.le_of_lt_succ h2) with h | h
      · exact hI j h1 h
      · subst h
        exact qg (by assumption) rfl (by omega)
    · first | omega | (dsimp only; omega)
    · exact ⟨⟨zy, c9, trivial⟩, ⟨u9, trivial⟩⟩
  ·
   have h1 := of_decide_eq_false r1
   try simp only [ty] at h1
   refine am ?_; refine sx7 ?_; (iterate 2 refine qy ?_); refine a6 ?_; refine bu 2 rfl rfl rfl ?_; refine ap ?_; refine ⟨.inr rfl, ?_⟩
   exact ⟨_, _, rfl, (by (repeat' apply And.intro) <;> first | trivial | exact Nat.le_of_ble_eq_true rfl), acu (k := k) (by omega) hI, trivial⟩
end Go.Hx
end
section
namespace Go.Hx
section
variable {α : Type} [Inhabited α] {p : α → Bool} {l : List α}
theorem w4 (h : idx p l = -1) : ∀ j, j < l.length → p (l.getD j default) = false := fun j hj => by
 cases hc : p (l.getD j default) with
 | false => rfl
 | true =>
  exfalso
  have hx : ∃ x ∈ l, p x = true := ⟨l[j], List.getElem_mem hj, by simpa [List.getD, hj] using hc⟩
  unfold idx at h
  cases hf : l.findIdx? p with
  | none =>
   rw [List.findIdx?_eq_none_iff] at hf
   obtain ⟨x, hx, hp⟩ := hx
   rw [hf x hx] at hp
   cases hp
  | some i => rw [hf] at h; simp only at h; omega
theorem nn (h : ¬ idx p l = -1) : ∃ i : Nat, idx p l = i ∧ i < l.length ∧ p (l.getD i default) = true ∧ ∀ j, j < i → p (l.getD j default) = false := by
 unfold idx at h ⊢
 cases hf : l.findIdx? p with
 | none => rw [hf] at h; exact absurd rfl h
 | some i =>
  obtain ⟨h1, h2, h3⟩ := List.findIdx?_eq_some_iff_getElem.1 hf
  refine ⟨i, rfl, h1, by simpa [List.getD, h1] using h2, fun j hj => ?_⟩
  have := h3 j hj
  simp only [List.getD, List.getElem?_eq_getElem (Nat.lt_trans hj h1), Option.getD_some]
  simpa using this
theorem ya : (decide (0 ≤ idx p l)) = l.any p := by
 unfold idx
 cases hf : l.findIdx? p with
 | none =>
  rw [List.findIdx?_eq_none_iff] at hf
  have : l.any p = false := by
   rw [List.any_eq_false]
   intro x hx
   rw [hf x hx]
   exact Bool.false_ne_true
  rw [this]; rfl
 | some i =>
  obtain ⟨h1, h2, _⟩ := List.findIdx?_eq_some_iff_getElem.1 hf
  have : l.any p = true := List.any_eq_true.2 ⟨l[i], List.getElem_mem h1, h2⟩
  rw [this]
  exact decide_eq_true (Int.natCast_nonneg i)
theorem wl : ∀ {k : Nat}, k ≤ l.length → (∀ j, j < k → p (l.getD j default) = false) → (l.take k).filter (fun x => !p x) = l.take k
 | 0, _, _ => by simp
 | k + 1, hk, h => by rw [cr (by omega), List.filter_append, wl (by omega) fun j hj => h j (by omega)]; simp only [List.filter_cons, h k (by omega), Bool.not_false, if_true, List.filter_nil]
structure DfI (p : α → Bool) (l : List α) (k q : Nat) (m : List α) : Prop where
 len : m.length = l.length
 kq : k < q
 ql : q ≤ l.length
 pre : m.take k = (l.take q).filter fun x => !p x
 high : ∀ j, q ≤ j → m.getD j default = l.getD j default
theorem DfI.start {k : Nat} (hk : k < l.length) (h1 : p (l.getD k default) = true) (h : ∀ j, j < k → p (l.getD j default) = false) : DfI p l k (k + 1) l :=
 ⟨rfl, by omega, hk, by rw [cr hk, List.filter_append, wl (by omega) h]; simp only [List.filter_cons, h1, Bool.not_true, List.filter_nil, Bool.false_eq_true, if_false, List.append_nil], fun _ _ => rfl⟩
theorem DfI.skip {k q : Nat} {m : List α} (h : DfI p l k q m) (hq : q < l.length) (hp : p (m.getD q default) = true) : DfI p l k (q + 1) m := by
 rw [h.high q (Nat.le_refl _)] at hp
 exact ⟨h.len, by have := h.kq; omega, hq, by rw [cr hq, List.filter_append, ← h.pre]; simp only [List.filter_cons, hp, Bool.not_true, List.filter_nil, Bool.false_eq_true, if_false, List.append_nil], fun j hj => h.high j (by omega)⟩
theorem DfI.keep {k q : Nat} {m : List α} (h : DfI p l k q m) (hq : q < l.length) (hp : p (m.getD q default) = false) : DfI p l (k + 1) (q + 1) (m.set k (m.getD q default)) := by
 have e := h.high q (Nat.le_refl _)
 rw [e] at hp ⊢
 have hk := h.kq
 have hl := h.len
 refine ⟨by simp [hl], by omega, hq, ?_, fun j hj => by rw [getD_set_ne' (by omega)]; exact h.high j (by omega)⟩
 rw [cr (by simp [hl]; omega), li (by omega), cr hq, List.filter_append, ← h.pre]
 simp only [List.filter_cons, hp, Bool.not_false, if_true, List.filter_nil]
 congr 1
 rw [List.take_set, List.set_eq_of_length_le (by simp; omega)]
end
section
variable {p : AS → Bool} {l : List AS}
theorem avx (h : ∀ j, j < l.length → p (l.getD j default) = false) : CoP (.sl l.length 1 false (lf sC l)) (asl (l.filter fun x => !p x)) := by
 have := wl (Nat.le_refl l.length) h
 rw [List.take_length] at this
 rw [this]
 exact CoP.refl _
theorem aua {m : List AS} {k q n a d : Nat} {cl : Bool} {z : List Value} (hC : DfI p l k q m) (hq : ¬ q < l.length) (ha : k ≤ a) : CoP (.sl (dq (bd n (some (k : Int))) none) 1 cl (lw (jv (lf sC m) a d z) none)) (asl (l.filter fun x => !p x)) := by
 have e := hC.pre
 have h1 := hC.ql
 have h2 := hC.len
 have h3 := hC.kq
 rw [show q = l.length by omega, List.take_length] at e
 have el : (l.filter fun x => !p x).length = k := by rw [← e]; simp; omega
 exact a4q (by rw [el]; rfl) rfl (by omega) (by rw [el, e])
end
theorem agd {a b : AS} : decide (asI a = asI b) = decide (a = b) := decide_eq_decide.2 d6
instance : DecidableEq Fd := fun a b => decidable_of_iff (a.lhs = b.lhs ∧ a.rhs = b.rhs) Fd.eq_iff.symm
end Go.Hx
end
section
namespace Go.Hx
open Go.Proofs
set_option maxRecDepth 100000
set_option maxHeartbeats 1000000
theorem xc : goodFn Tryz.prog 22 := ⟨Tryz.f22, Tryz.func22, by kernel_rfl, by kernel_rfl⟩
theorem v8 (n : Nat) (c : Bool) (f : Nat → Nat → PV) (hn : n ≤ 35184372088832) :
 d7 Tryz.prog 22 [.one (.p (.sl n 1 c f))] [] (.v (.one (.ref 0 n))) [(0, .arr true 1 38 n f)] [] := by
 refine eu (nt := 8) af Tryz.func22 rfl rfl l9 rfl ?_; refine sx7 ?_; refine en true rfl rfl rfl rfl rfl trivial ?_; refine a6 ?_
 refine a44 (ι := Bool) (fun c => ⟨[(0, some (br (.sl n 1 c f)))], []⟩) (fun _ => True) ?_ fun c _ => ?_
 · rcases Nat.eq_zero_or_pos n with hz | h0
   · subst hz
     refine hw_exact' 0 rfl fun ad cap hcap => ?_
     refine sx7 ?_; (iterate 2 refine en true rfl rfl rfl rfl rfl trivial ?_); refine a6 ?_; refine a8 ad.isNone rfl (fun hc => ?_) (fun hc => ?_)
     · refine sx7 ?_
       refine en true rfl rfl rfl rfl rfl trivial ?_; refine a6 ?_; refine dl 2 0 true 1 38 f (by decide) rfl (CoP.sl rfl (.inr rfl) (fun h => h) fun i j hi _ => absurd hi (Nat.not_lt_zero i)) (.inr rfl) rfl ?_
       refine ap ?_; refine ⟨.inr rfl, ?_⟩
       exact ⟨_, _, rfl, trivial, CoR.refl _, ⟨u9, trivial⟩⟩
     · refine aa ?_
       exact ⟨false, trivial, ⟨⟨_, rfl, CoP.raw_sl hcap⟩, trivial⟩, trivial⟩
   · refine sx7 ?_
     refine en true rfl rfl rfl rfl rfl trivial ?_; refine en true rfl rfl rfl rfl rfl h0 ?_; refine a6 ?_; refine a8 false rfl (fun hc => by cases hc) (fun hc => ?_); refine aa ?_
     exact ⟨c, trivial, ⟨c9, trivial⟩, trivial⟩
 · refine sx7 ?_
   refine zw 0 rfl rfl rfl rfl rfl rfl trivial ?_; refine en true rfl rfl rfl rfl rfl trivial ?_
   refine a9y 0 true rfl rfl rfl rfl rfl rfl ⟨trivial, rfl, rfl, rfl, .inl rfl, by show 0 + n ≤ 9223372036854775807; omega, by show (0 + n) * 4 ≤ 140737488355328; omega, fun _ => .inl rfl⟩ ?_
   refine en true rfl rfl rfl rfl rfl trivial ?_; refine a6 ?_; refine ap ?_; refine ⟨.inr rfl, ?_⟩
   refine ⟨_, _, rfl, trivial, CoR.of_eq (by show HR.v (.one (.ref 0 (0 + n))) = _; rw [Nat.zero_add]), ⟨⟨_, rfl, ?_⟩, trivial⟩⟩
   exact ⟨fun h => h, rfl, rfl, (Nat.zero_add n).symm, fun i j _ _ => CoP.of_eq (by simp [f8])⟩
theorem aqp (n : Nat) (c : Bool) (f : Nat → Nat → PV) (hn : n ≤ 35184372088832) : aj Tryz.prog 22 [.one (.sl n 1 c f)] (.v (.one (.sl n 1 false f))) :=
 d7.pure (args := [.one (.sl n 1 c f)]) (l := [.one (.ref 0 n)]) (v8 n c f hn) rfl ⟨rfl, trivial⟩
theorem atl : goodFn Tryz.prog 116 := ⟨Tryz.f116, Tryz.func116, by kernel_rfl, by kernel_rfl⟩
theorem b0g (l : List Fd) (g k : Nat) (caps : Nat → PV) (V : Fd → Bool) (hg : goodFn Tryz.prog g) (hV : ∀ x, aj Tryz.prog g (x.pc :: fz caps k 0) (aq [pB (V x)])) : aj Tryz.prog 116 [pP (fdl l), pP (.fn g k caps)] (aq [pI (idx V l)]) := by
 refine ag (nt := 19) af Tryz.func116 rfl rfl l9 ?_; refine a7 ?_
 refine ce 0 rfl fun hn => ?_
 refine gy ?_; refine qy ?_; refine a6 ?_; refine df (ι := Unit) ⟨[], []⟩ ⟨trivial, trivial⟩ (fun _i => ⟨[], []⟩) (fun _i => idx V l = -1) ?_ ?_
 ·
  refine sx7 ?_; (iterate 3 refine qy ?_); refine a6 ?_; refine ae ?_
  refine ak (ι := Nat) ⟨[(0, some _), (1, some _), (7, some _)], []⟩ ⟨⟨c9, c9, c9, trivial⟩, trivial⟩ (fun i => ⟨[(8, some (vI i))], []⟩) (fun i => i ≤ l.length ∧ (∀ j, j < i → V (l.getD j default) = false)) (fun i => l.length - i) (0) (⟨Nat.zero_le _, bt⟩) ⟨⟨zy, trivial⟩, trivial⟩ ?_
  rintro i ⟨hi, hI⟩
  refine sx7 ?_; refine qy ?_; refine a6 ?_; refine a7 ?_; refine a8 _ rfl (fun r0 => ?_) (fun r0 => ?_)
  ·
   have h0 := of_decide_eq_true r0
   try simp only [ty] at h0
   refine aa ?_; refine a7 ?_; refine ae ?_; refine sx7 ?_; (iterate 2 refine qy ?_); refine a6 ?_; refine sx7 ?_; (iterate 5 refine qy ?_)
   refine rc rfl rfl rfl rfl rfl rfl hg (hV (l.getD i default)) (CoL.refl _) rfl rfl ?_; refine a6 ?_; refine a8 _ rfl (fun r1 => ?_) (fun r1 => ?_)
   ·
    have h1 := r1
    refine sx7 ?_; (iterate 2 refine qy ?_); refine a6 ?_
    exact hx8 rfl rfl rfl (⟨cci (t7 (i := i) (by omega) hI h1).symm, trivial⟩)
   ·
    have h1 := r1
    refine aa ?_; refine gy ?_; (iterate 2 refine qy ?_); refine a6 ?_; refine ⟨i + 1, ?_, ?_, ?_⟩
    · exact ⟨by show i + 1 ≤ _; omega, be hI (h1)⟩
    · first | omega | (dsimp only; omega)
    · exact ⟨⟨zy, c9, c9, c9, trivial⟩, trivial⟩
  ·
   have h0 := of_decide_eq_false r0
   try simp only [ty] at h0
   refine am ?_; refine ⟨(), ?_, ?_⟩
   · exact sy fun j hj => hI j (by omega)
   · exact ⟨trivial, trivial⟩
 · rintro _ hj
   refine sx7 ?_; refine qy ?_; refine a6 ?_
   exact hx8 rfl rfl rfl (⟨cci hj.symm, trivial⟩)
theorem a5n : goodFn Tryz.prog 121 := ⟨Tryz.f121, Tryz.func121, by kernel_rfl, by kernel_rfl⟩
theorem ark (l : List AS) (g k : Nat) (caps : Nat → PV) (V : AS → Bool) (hg : goodFn Tryz.prog g) (hV : ∀ x, aj Tryz.prog g (pA x :: fz caps k 0) (aq [pB (V x)])) : aj Tryz.prog 121 [pP (asl l), pP (.fn g k caps)] (aq [pI (idx V l)]) := by
 refine ag (nt := 19) af Tryz.func121 rfl rfl l9 ?_; refine a7 ?_
 refine ce 0 rfl fun hn => ?_
 refine gy ?_; refine qy ?_; refine a6 ?_; refine df (ι := Unit) ⟨[], []⟩ ⟨trivial, trivial⟩ (fun _i => ⟨[], []⟩) (fun _i => idx V l = -1) ?_ ?_
 ·
  refine sx7 ?_; (iterate 3 refine qy ?_); refine a6 ?_; refine ae ?_
  refine ak (ι := Nat) ⟨[(0, some _), (1, some _), (7, some _)], []⟩ ⟨⟨c9, c9, c9, trivial⟩, trivial⟩ (fun i => ⟨[(8, some (vI i))], []⟩) (fun i => i ≤ l.length ∧ (∀ j, j < i → V (l.getD j default) = false)) (fun i => l.length - i) (0) (⟨Nat.zero_le _, bt⟩) ⟨⟨zy, trivial⟩, trivial⟩ ?_
  rintro i ⟨hi, hI⟩
  refine sx7 ?_; refine qy ?_; refine a6 ?_; refine a7 ?_; refine a8 _ rfl (fun r0 => ?_) (fun r0 => ?_)
  ·
   have h0 := of_decide_eq_true r0
   try simp only [ty] at h0
   refine aa ?_; refine a7 ?_; refine ae ?_; refine sx7 ?_; (iterate 2 refine qy ?_); refine a6 ?_; refine sx7 ?_; (iterate 5 refine qy ?_)
   refine rc rfl rfl rfl rfl rfl rfl hg (hV (l.getD i default)) (CoL.refl _) rfl rfl ?_; refine a6 ?_; refine a8 _ rfl (fun r1 => ?_) (fun r1 => ?_)
   ·
    have h1 := r1
    refine sx7 ?_; (iterate 2 refine qy ?_); refine a6 ?_
    exact hx8 rfl rfl rfl (⟨cci (t7 (i := i) (by omega) hI h1).symm, trivial⟩)
   ·
    have h1 := r1
    refine aa ?_; refine gy ?_; (iterate 2 refine qy ?_); refine a6 ?_; refine ⟨i + 1, ?_, ?_, ?_⟩
    · exact ⟨by show i + 1 ≤ _; omega, be hI (h1)⟩
    · first | omega | (dsimp only; omega)
    · exact ⟨⟨zy, c9, c9, c9, trivial⟩, trivial⟩
  ·
   have h0 := of_decide_eq_false r0
   try simp only [ty] at h0
   refine am ?_; refine ⟨(), ?_, ?_⟩
   · exact sy fun j hj => hI j (by omega)
   · exact ⟨trivial, trivial⟩
 · rintro _ hj
   refine sx7 ?_; refine qy ?_; refine a6 ?_
   exact hx8 rfl rfl rfl (⟨cci hj.symm, trivial⟩)
theorem a8d : goodFn Tryz.prog 65 := ⟨Tryz.f65, Tryz.func65, by kernel_rfl, by kernel_rfl⟩
theorem aeu (l : List AS) (g k : Nat) (caps : Nat → PV) (V : AS → Bool) (hg : goodFn Tryz.prog g) (hV : ∀ x, aj Tryz.prog g (pA x :: fz caps k 0) (aq [pB (V x)])) : aj Tryz.prog 65 [pP (asl l), pP (.fn g k caps)] (aq [pB (l.any V)]) := by
 refine ag (nt := 9) af Tryz.func65 rfl rfl l9 ?_; refine sx7 ?_; refine qy ?_; refine a6 ?_; refine sx7 ?_; (iterate 2 refine qy ?_)
 refine rc rfl rfl rfl rfl rfl rfl a5n (ark l g k caps V hg hV) (CoL.refl _) rfl rfl ?_; (iterate 2 refine qy ?_); refine a6 ?_
 exact hx8 rfl rfl rfl (⟨ccb ya, trivial⟩)
theorem az7 : goodFn Tryz.prog 71 := ⟨Tryz.f71, Tryz.func71, by kernel_rfl, by kernel_rfl⟩
theorem b1a (l : List AS) (s : AS) : aj Tryz.prog 71 [pP (asl l), pA s] (aq [pI (idx (fun x => decide (x = s)) l)]) := by
 refine ag (nt := 19) af Tryz.func71 rfl rfl l9 ?_; refine a7 ?_
 refine ce 0 rfl fun hn => ?_
 refine gy ?_; refine qy ?_; refine a6 ?_; refine df (ι := Unit) ⟨[], []⟩ ⟨trivial, trivial⟩ (fun _i => ⟨[], []⟩) (fun _i => idx (fun x => decide (x = s)) l = -1) ?_ ?_
 ·
  refine sx7 ?_; (iterate 3 refine qy ?_); refine a6 ?_; refine ae ?_
  refine ak (ι := Nat) ⟨[(0, some _), (1, some _), (7, some _)], []⟩ ⟨⟨c9, c9, c9, trivial⟩, trivial⟩ (fun i => ⟨[(8, some (vI i))], []⟩) (fun i => i ≤ l.length ∧ (∀ j, j < i → decide (l.getD j default = s) = false)) (fun i => l.length - i) (0) (⟨Nat.zero_le _, bt⟩) ⟨⟨zy, trivial⟩, trivial⟩ ?_
  rintro i ⟨hi, hI⟩
  refine sx7 ?_; refine qy ?_; refine a6 ?_; refine a7 ?_; refine a8 _ rfl (fun r0 => ?_) (fun r0 => ?_)
  ·
   have h0 := of_decide_eq_true r0
   try simp only [ty] at h0
   refine aa ?_; refine a7 ?_; refine ae ?_; refine sx7 ?_; (iterate 2 refine qy ?_); refine a6 ?_; refine sx7 ?_; (iterate 6 refine qy ?_); refine a6 ?_; refine a8 _ rfl (fun r1 => ?_) (fun r1 => ?_)
   ·
    have h1 := of_decide_eq_true r1
    try simp only [ty] at h1
    refine sx7 ?_; (iterate 2 refine qy ?_); refine a6 ?_
    exact hx8 rfl rfl rfl (⟨cci (t7 (p := fun x => decide (x = s)) (i := i) (by omega) hI (decide_eq_true (d6.1 h1).symm)).symm, trivial⟩)
   ·
    have h1 := of_decide_eq_false r1
    try simp only [ty] at h1
    refine aa ?_; refine gy ?_; (iterate 2 refine qy ?_); refine a6 ?_; refine ⟨i + 1, ?_, ?_, ?_⟩
    · exact ⟨by show i + 1 ≤ _; omega, be hI (decide_eq_false fun e => h1 (congrArg asI e.symm))⟩
    · first | omega | (dsimp only; omega)
    · exact ⟨⟨zy, c9, c9, c9, trivial⟩, trivial⟩
  ·
   have h0 := of_decide_eq_false r0
   try simp only [ty] at h0
   refine am ?_; refine ⟨(), ?_, ?_⟩
   · exact sy (p := fun x => decide (x = s)) fun j hj => hI j (by omega)
   · exact ⟨trivial, trivial⟩
 · rintro _ hj
   refine sx7 ?_; refine qy ?_; refine a6 ?_
   exact hx8 rfl rfl rfl (⟨cci hj.symm, trivial⟩)
theorem avy : goodFn Tryz.prog 235 := ⟨Tryz.f235, Tryz.func235, by kernel_rfl, by kernel_rfl⟩
theorem b1v (l : List Fd) (s : Fd) : aj Tryz.prog 235 [pP (fdl l), s.pc] (aq [pI (idx (fun x => decide (x = s)) l)]) := by
 refine ag (nt := 19) af Tryz.func235 rfl rfl l9 ?_; refine a7 ?_
 refine ce 0 rfl fun hn => ?_
 refine gy ?_; refine m9 0 ?_; refine qy ?_; refine a6 ?_; refine df (ι := Unit) ⟨[], []⟩ ⟨trivial, trivial⟩ (fun _i => ⟨[], []⟩) (fun _i => idx (fun x => decide (x = s)) l = -1) ?_ ?_
 ·
  refine sx7 ?_; (iterate 3 refine qy ?_); refine a6 ?_; refine ae ?_
  refine ak (ι := Nat) ⟨[(0, some _), (3, some _), (7, some _)], [(0, some _)]⟩ ⟨⟨c9, c9, c9, trivial⟩, ⟨u9, trivial⟩⟩ (fun i => ⟨[(8, some (vI i))], []⟩) (fun i => i ≤ l.length ∧ (∀ j, j < i → decide (l.getD j default = s) = false)) (fun i => l.length - i) (0) (⟨Nat.zero_le _, bt⟩) ⟨⟨zy, trivial⟩, trivial⟩ ?_
  rintro i ⟨hi, hI⟩
  refine sx7 ?_; refine qy ?_; refine a6 ?_; refine a7 ?_; refine a8 _ rfl (fun r0 => ?_) (fun r0 => ?_)
  ·
   have h0 := of_decide_eq_true r0
   try simp only [ty] at h0
   refine aa ?_; refine a7 ?_; refine ae ?_; refine sx7 ?_; (iterate 2 refine qy ?_); refine a6 ?_; refine a7 ?_; refine ay (E := b6) af au [0, 1, 2, 3, 4, 5] ?_; (iterate 6 refine qy ?_)
   refine a6 ?_; refine ⟨by kernel_rfl, ?_⟩; refine a8 _ rfl (fun r1 => ?_) (fun r1 => ?_)
   ·
    have h1 := r1
    refine sx7 ?_; (iterate 2 refine qy ?_); refine a6 ?_
    exact hx8 rfl rfl rfl (⟨cci (t7 (p := fun x => decide (x = s)) (i := i) (by omega) hI (decide_eq_true (by simp_all [Fd.eq_iff, d6]))).symm, trivial⟩)
   ·
    have h1 := r1
    refine aa ?_; refine gy ?_; (iterate 2 refine qy ?_); refine a6 ?_; refine ⟨i + 1, ?_, ?_, ?_⟩
    · exact ⟨by show i + 1 ≤ _; omega, be hI (decide_eq_false fun e => by subst e; simp_all)⟩
    · first | omega | (dsimp only; omega)
    · exact ⟨⟨zy, c9, c9, c9, trivial⟩, ⟨u9, trivial⟩⟩
  ·
   have h0 := of_decide_eq_false r0
   try simp only [ty] at h0
   refine am ?_; refine ⟨(), ?_, ?_⟩
   · exact sy (p := fun x => decide (x = s)) fun j hj => hI j (by omega)
   · exact ⟨trivial, trivial⟩
 · rintro _ hj
   refine sx7 ?_; refine qy ?_; refine a6 ?_
   exact hx8 rfl rfl rfl (⟨cci hj.symm, trivial⟩)
theorem ati : goodFn Tryz.prog 227 := ⟨Tryz.f227, Tryz.func227, by kernel_rfl, by kernel_rfl⟩
theorem b1f (l : List Fd) (s : Fd) : aj Tryz.prog 227 [pP (fdl l), s.pc] (aq [pB (l.any fun x => decide (x = s))]) := by
 refine ag (nt := 9) af Tryz.func227 rfl rfl l9 ?_; refine sx7 ?_; refine m9 0 ?_; refine qy ?_; refine a6 ?_; refine sx7 ?_; (iterate 2 refine qy ?_)
 refine rc rfl rfl rfl rfl rfl rfl avy (b1v _ _) (CoL.refl _) rfl rfl ?_; (iterate 2 refine qy ?_); refine a6 ?_
 exact hx8 rfl rfl rfl (⟨ccb ya, trivial⟩)
theorem ad9 : goodFn Tryz.prog 122 := ⟨Tryz.f122, Tryz.func122, by kernel_rfl, by kernel_rfl⟩
theorem arp (l : List AS) (g k : Nat) (caps : Nat → PV) (V : AS → Bool) (hg : goodFn Tryz.prog g) (hV : ∀ x, aj Tryz.prog g (pA x :: fz caps k 0) (aq [pB (V x)])) : d7 Tryz.prog 122 [.one (.ref 900 l.length), .one (.p (.fn g k caps))] [(900, .arr true 1 38 l.length (lf sC l))] (.v (.one (.p (asl (l.filter fun x => !V x))))) [] [] := by
 refine eu (nt := 42) af Tryz.func122 rfl rfl l9 rfl ?_; refine a7 ?_
 refine a3c 900 rfl fun hlen => ?_
 refine gy ?_; refine qy ?_; refine a6 ?_; refine sx7 ?_; (iterate 2 refine qy ?_); refine rc rfl rfl rfl rfl rfl rfl a5n (ark l g k caps V hg hV) (CoL.refl _) rfl rfl ?_; refine qy ?_; refine a6 ?_; refine a7 ?_
 refine sx7 ?_; (iterate 2 refine qy ?_); refine a6 ?_; refine a8 _ rfl (fun r0 => ?_) (fun r0 => ?_)
 ·
  have h0 := of_decide_eq_true r0
  try simp only [ty] at h0
  refine sx7 ?_; (iterate 2 refine qy ?_); refine a6 ?_; refine bu 4 rfl rfl rfl ?_; refine ap ?_; refine ⟨.inr rfl, ?_⟩
  exact ⟨_, _, rfl, (by (repeat' apply And.intro) <;> first | trivial | exact Nat.le_of_ble_eq_true rfl), avx (w4 (by assumption)), trivial⟩
 ·
  have h0 := of_decide_eq_false r0
  try simp only [ty] at h0
  obtain ⟨i0, hi0, hi1, hi2, hi3⟩ := nn h0
  refine aa ?_; refine a7 ?_; refine sx7 ?_; (iterate 3 refine qy ?_); refine a6 ?_; refine ae ?_
  refine ak (ι := Nat × Nat × List AS) ⟨[(0, some _), (1, some _)], []⟩ ⟨⟨c9, c9, trivial⟩, trivial⟩ (fun x => ⟨[(5, some (vI x.1)), (6, some (vI x.2.1))], [(900, some (.arr true 1 38 l.length (lf sC x.2.2)))]⟩) (fun x => DfI V l x.1 x.2.1 x.2.2) (fun x => l.length - x.2.1) ((i0, i0 + 1, l)) (DfI.start hi1 hi2 hi3) ⟨⟨⟨_, rfl, (coi hi0)⟩, ⟨_, rfl, (coi (by dsimp only; omega))⟩, trivial⟩, ⟨u9, trivial⟩⟩ ?_
  rintro x hC
  have hC0 := hC
  obtain ⟨hml, hkq, hql, _, _⟩ := hC0
  refine a7 ?_; refine sx7 ?_; (iterate 4 refine qy ?_); refine a6 ?_; refine a8 _ rfl (fun r1 => ?_) (fun r1 => ?_)
  ·
   have h1 := of_decide_eq_true r1
   try simp only [ty] at h1
   refine aa ?_; refine a7 ?_; refine ae ?_; refine sx7 ?_; (iterate 5 refine qy ?_); refine a6 ?_; refine sx7 ?_; (iterate 2 refine qy ?_)
   refine rc rfl rfl rfl rfl rfl rfl hg (hV (x.2.2.getD (x.2.1 : Int).toNat default)) (CoL.refl _) rfl rfl ?_; refine qy ?_; refine a6 ?_; refine a8 _ rfl (fun r2 => ?_) (fun r2 => ?_)
   ·
    have h2 := r2
    have h2 := az h2
    have hv := h2
    refine sx7 ?_; (iterate 4 refine qy ?_); refine s9 ?_; refine a6 ?_; refine gy ?_; (iterate 3 refine qy ?_); refine a6 ?_; refine gy ?_; (iterate 3 refine qy ?_); refine a6 ?_
    first | (refine ⟨(x.1 + 1, x.2.1 + 1, x.2.2.set x.1 (x.2.2.getD x.2.1 default)), ?_, ?_, ?_⟩
             · exact hC.keep (by omega) (by simpa using hv)
             · first | omega | (dsimp only; omega)
             · exact ⟨⟨⟨_, rfl, (coi (by first | rfl | (dsimp only; omega)))⟩, ⟨_, rfl, (coi (by first | rfl | (dsimp only; omega)))⟩, c9, c9, trivial⟩, ⟨⟨_, rfl, (mi id hml.symm (by omega) (by omega) (by omega))⟩, trivial⟩⟩)
          | (refine ⟨(x.1, x.2.1 + 1, x.2.2), ?_, ?_, ?_⟩
             · exact hC.skip (by omega) (by simpa using hv)
             · first | omega | (dsimp only; omega)
             · exact ⟨⟨⟨_, rfl, (coi (by first | rfl | (dsimp only; omega)))⟩, ⟨_, rfl, (coi (by first | rfl | (dsimp only; omega)))⟩, c9, c9, trivial⟩, ⟨u9, trivial⟩⟩)
   ·
    have h2 := r2
    have h2 := b4 h2
    have hv := h2
    refine aa ?_; refine gy ?_; (iterate 3 refine qy ?_); refine a6 ?_
    first | (refine ⟨(x.1 + 1, x.2.1 + 1, x.2.2.set x.1 (x.2.2.getD x.2.1 default)), ?_, ?_, ?_⟩
             · exact hC.keep (by omega) (by simpa using hv)
             · first | omega | (dsimp only; omega)
             · exact ⟨⟨⟨_, rfl, (coi (by first | rfl | (dsimp only; omega)))⟩, ⟨_, rfl, (coi (by first | rfl | (dsimp only; omega)))⟩, c9, c9, trivial⟩, ⟨⟨_, rfl, (mi id hml.symm (by omega) (by omega) (by omega))⟩, trivial⟩⟩)
          | (refine ⟨(x.1, x.2.1 + 1, x.2.2), ?_, ?_, ?_⟩
             · exact hC.skip (by omega) (by simpa using hv)
             · first | omega | (dsimp only; omega)
             · exact ⟨⟨⟨_, rfl, (coi (by first | rfl | (dsimp only; omega)))⟩, ⟨_, rfl, (coi (by first | rfl | (dsimp only; omega)))⟩, c9, c9, trivial⟩, ⟨u9, trivial⟩⟩)
  ·
   have h1 := of_decide_eq_false r1
   try simp only [ty] at h1
   have hq := h1
   refine am ?_; refine sx7 ?_; (iterate 3 refine qy ?_); refine ra 0 true rfl rfl rfl rfl rfl rfl ?_; refine a6 ?_; refine sx7 ?_; (iterate 2 refine qy ?_); refine aot rfl rfl rfl rfl rfl ?_; refine qy ?_
   refine a6 ?_; refine ap ?_; refine ⟨.inr rfl, ?_⟩
   exact ⟨_, _, rfl, (by (repeat' apply And.intro) <;> first | trivial | exact Nat.le_of_ble_eq_true rfl), aua hC (by omega) (by simp [bd]), trivial⟩
end Go.Hx
end
section
namespace Go.Hx
def d2 (s : AS) (i : Int) : Bool := decide (0 ≤ i ∧ i < 32) && s.getLsbD i.toNat
theorem ic {s : AS} {i : Nat} (h : i < 32) : d2 s i = s.getLsbD i := by
 unfold d2
 rw [decide_eq_true (by omega)]
 simp
theorem a7i {s : AS} {i : Int} (h0 : 0 ≤ i) (h1 : i < 32) : decide (d9 .and .u32 ((asI s).fdiv (2 ^ (min i.toNat 32))) 1 = 1) = d2 s i := by
 unfold d2
 rw [yl, show (1 : Int) = asI 1 from rfl, o5, decide_eq_true (show 0 ≤ i ∧ i < 32 from ⟨h0, h1⟩), Bool.true_and]
 have e : asI (s >>> i.toNat &&& 1) = asI 1 ↔ s.getLsbD i.toNat = true := by
  rw [d6]
  constructor
  · intro h
    have := congrArg (fun x : AS => x.getLsbD 0) h
    simpa using this
  · intro h
    apply BitVec.eq_of_getLsbD_eq
    intro k hk
    have h1 : (1 : AS).getLsbD k = decide (k = 0) := by have := ul 0 k hk; simpa using this
    rw [BitVec.getLsbD_and, BitVec.getLsbD_ushiftRight, h1]
    by_cases hk0 : k = 0
    · subst hk0; simp [h]
    · simp [hk0]
 cases hb : s.getLsbD i.toNat with
 | true => exact decide_eq_true (e.2 hb)
 | false => exact decide_eq_false fun h => by rw [e.1 h] at hb; cases hb
theorem rj {s : AS} {i : Int} (h : ¬ (0 ≤ i ∧ i < 32)) : d2 s i = false := by
 unfold d2
 rw [decide_eq_false h]
 rfl
theorem abt {n : Nat} (h : n ≤ 32) : ik n = BitVec.ofNat 32 (2 ^ n - 1) := by
 apply BitVec.eq_of_getLsbD_eq
 intro k hk
 rw [mf n k hk, BitVec.getLsbD_ofNat, Nat.testBit_two_pow_sub_one]
 simp [hk]
theorem abq {n : Nat} (h : n ≤ 32) : (ik n).toNat = 2 ^ n - 1 := by
 have h2 : 2 ^ n ≤ 2 ^ 32 := Nat.pow_le_pow_right (by omega) h
 have h3 : 0 < 2 ^ n := Nat.two_pow_pos n
 rw [abt h, BitVec.toNat_ofNat, Nat.mod_eq_of_lt (by omega)]
theorem it {n : Int} {l : List Fd} (h : ca n l = 0) : 0 ≤ n ∧ n ≤ 16 ∧ l.length ≤ 64 ∧ l.all (inU n) = true := by
 unfold ca at h
 split at h
 · cases h
 · split at h
   · cases h
   · split at h
     · rename_i h1 h2 h3
       exact ⟨by omega, by omega, by omega, h3⟩
     · cases h
theorem s5 {n : Int} (h0 : 0 ≤ n) (h1 : n ≤ 16) : IntKind.wrap .u32 (1 * 2 ^ (min n.toNat 32)) - 1 = asI (bw n) := by
 have h2 : 2 ^ n.toNat ≤ 2 ^ 16 := Nat.pow_le_pow_right (by omega) (by omega)
 have h3 : 0 < 2 ^ n.toNat := Nat.two_pow_pos _
 rw [show IntKind.wrap .u32 (1 * 2 ^ (min n.toNat 32)) = asI ((1 : AS) <<< n.toNat) from ae0 1 n.toNat]
 unfold bw asI
 rw [Nat.min_eq_left (by omega), abq (by omega), BitVec.toNat_shiftLeft, Nat.shiftLeft_eq]
 rw [show (1 : AS).toNat = 1 from rfl, Nat.one_mul, Nat.mod_eq_of_lt (by omega)]
 omega
theorem arz {s : AS} {n : Int} (h0 : 0 ≤ n) (h1 : n ≤ 16) : (asI s).fdiv (2 ^ (min n.toNat 32)) = 0 ↔ sub s (bw n) := by
 rw [yl, show (0 : Int) = asI 0 from rfl, d6]
 unfold bw
 rw [Nat.min_eq_left (by omega)]
 exact (pn (by omega)).symm
theorem a2e {n : Int} (h0 : 0 ≤ n) (h1 : n ≤ 16) : 0 ≤ IntKind.wrap .u32 (1 * 2 ^ (min n.toNat 32)) - 1 := by rw [s5 h0 h1]; exact a2t _
theorem xq {n : Int} (h0 : 0 ≤ n) (h1 : n ≤ 16) : IntKind.wrap .u32 (1 * 2 ^ (min n.toNat 32)) - 1 ≤ 4294967295 := by rw [s5 h0 h1]; have := a8t (bw n); omega
theorem an1 {a b : List AS} (h : a.length = b.length) (hI : ∀ j, j < a.length → decide (a.getD j default = b.getD j default) = true) : a = b := jq h fun j hj => of_decide_eq_true (hI j hj)
def o8 (n : Int) (l : List Fd) (s : AS) : Bool := decide (ca n l = 0 ∧ sub s (bw n) ∧ clo l s = bw n)
section
variable {n : Int} {l : List Fd} {s : AS}
theorem adv (h : ¬ ca n l = 0) : o8 n l s = false := decide_eq_false fun e => h e.1
theorem aqs (h : ca n l = 0) (h2 : (asI s).fdiv (2 ^ (min n.toNat 32)) = 0) : decide (asI (clo l s) = asI (bw n)) = o8 n l s := by
 have hv := it h
 have h3 := (arz hv.1 hv.2.1).1 h2
 exact decide_eq_decide.2 ⟨fun e => ⟨h, h3, d6.1 e⟩, fun e => congrArg asI e.2.2⟩
theorem aff (h : ca n l = 0) (h2 : ¬ (asI s).fdiv (2 ^ (min n.toNat 32)) = 0) : o8 n l s = false := by
 have hv := it h
 exact decide_eq_false fun e => h2 ((arz hv.1 hv.2.1).2 e.2.1)
end
def fp (n : Int) (l : List Fd) (m : Int) : Int := if ca n l = 0 then (if m < n then 3 else 0) else ca n l
structure Dp where
 l : BitVec 8
 r : BitVec 8
deriving Inhabited
def Dp.c (d : Dp) : Nat → PV
 | 0 => .raw (.int .u8 (d.l.toNat : Int))
 | 1 => .raw (.int .u8 (d.r.toNat : Int))
 | _ => .any
abbrev dpl (l : List Dp) : PV := psl 2 Dp.c l
def Dp.fd (n : Int) (d : Dp) : Fd := ⟨d.l.setWidth 32 &&& bw n, d.r.setWidth 32 &&& bw n⟩
theorem ak6 (b : BitVec 8) (t : AS) : d9 .and .u32 (b.toNat : Int) (asI t) = asI (b.setWidth 32 &&& t) := by
 have h := b.isLt
 have e : asI (b.setWidth 32) = (b.toNat : Int) := by
  unfold asI
  rw [BitVec.toNat_setWidth, Nat.mod_eq_of_lt (by omega)]
 rw [← o5, e]
end Go.Hx
end
section
namespace Go.Hx
open Go.Proofs
set_option maxRecDepth 100000
set_option maxHeartbeats 1000000
theorem qk : goodFn Tryz.prog 171 := ⟨Tryz.f171, Tryz.func171, by kernel_rfl, by kernel_rfl⟩
theorem a43 (s : AS) (i : Int) : aj Tryz.prog 171 [pA s, pI i] (aq [pB (d2 s i)]) := by
 refine ag (nt := 18) af Tryz.func171 rfl rfl l9 ?_; refine sx7 ?_; refine qy ?_; refine a6 ?_; refine sx7 ?_; (iterate 3 refine qy ?_); refine bh rfl rfl (fun r0 => ?_) (fun r0 => ?_)
 ·
  have h0 := of_decide_eq_true r0
  try simp only [ty] at h0
  (iterate 2 refine qy ?_ (hg := (gtt r0))); (iterate 2 refine qy ?_); refine bh rfl rfl (fun r1 => ?_) (fun r1 => ?_)
  ·
   have h1 := r1
   have h1 := dw r0 h1
   have h1 := of_decide_eq_true h1
   try simp only [ty] at h1
   (iterate 5 refine qy ?_ (hg := (gtt r1))); (iterate 2 refine qy ?_); refine a6 ?_
   exact hx8 rfl rfl rfl (⟨ccb (by first | exact b7 (by assumption) (a7i (by omega) (by omega)) | exact (rj (by omega)).symm), trivial⟩)
  ·
   have h1 := r1
   have h1 := dw r0 h1
   have h1 := of_decide_eq_false h1
   try simp only [ty] at h1
   (iterate 5 refine k9 (gft r1) ?_); refine rq rfl rfl rfl rfl rfl ?_ (hp := r1); refine qy ?_; refine a6 ?_
   exact hx8 rfl rfl rfl (⟨ccb (by first | exact b7 (by assumption) (a7i (by omega) (by omega)) | exact (rj (by omega)).symm), trivial⟩)
 ·
  have h0 := of_decide_eq_false r0
  try simp only [ty] at h0
  (iterate 2 refine k9 (gft r0) ?_); refine rq rfl rfl rfl rfl rfl ?_ (hp := r0); refine qy ?_; (iterate 5 refine k9 rfl ?_); (iterate 2 refine qy ?_); refine a6 ?_
  exact hx8 rfl rfl rfl (⟨ccb (by first | exact b7 (by assumption) (a7i (by omega) (by omega)) | exact (rj (by omega)).symm), trivial⟩)
theorem aum : goodFn Tryz.prog 138 := ⟨Tryz.f138, Tryz.func138, by kernel_rfl, by kernel_rfl⟩
theorem ay2 (n : Int) (h0 : 0 ≤ n) (h1 : n ≤ 16) : aj Tryz.prog 138 [pI n] (aq [pA (bw n)]) := by
 refine ag (nt := 6) af Tryz.func138 rfl rfl l9 ?_; refine sx7 ?_; refine qy ?_; refine a6 ?_; refine sx7 ?_; (iterate 2 refine qy ?_); refine rq rfl rfl rfl rfl rfl ?_ (hp := ⟨a2e h0 h1, xq h0 h1⟩)
 refine qy ?_; refine a6 ?_
 exact hx8 rfl rfl rfl (⟨cci (s5 h0 h1), trivial⟩)
theorem a8w : goodFn Tryz.prog 61 := ⟨Tryz.f61, Tryz.func61, by kernel_rfl, by kernel_rfl⟩
theorem aet (n : Int) (h0 : 0 ≤ n) (h1 : n ≤ 16) : aj Tryz.prog 61 [pI n] (aq [pA (bw n)]) := by
 refine ag (nt := 6) af Tryz.func61 rfl rfl l9 ?_; refine sx7 ?_; refine qy ?_; refine a6 ?_; refine sx7 ?_; (iterate 2 refine qy ?_); refine rq rfl rfl rfl rfl rfl ?_ (hp := ⟨a2e h0 h1, xq h0 h1⟩)
 refine qy ?_; refine a6 ?_
 exact hx8 rfl rfl rfl (⟨cci (s5 h0 h1), trivial⟩)
theorem ak5 : goodFn Tryz.prog 60 := ⟨Tryz.f60, Tryz.func60, by kernel_rfl, by kernel_rfl⟩
theorem ax9 (n : Int) (l : List Fd) : aj Tryz.prog 60 [pI n, pP (fdl l)] (aq [pI (fp n l 8)]) := by
 refine ag (nt := 14) af Tryz.func60 rfl rfl l9 ?_; refine sx7 ?_; refine qy ?_; refine a6 ?_; refine a7 ?_; refine sx7 ?_; (iterate 2 refine qy ?_)
 refine rc rfl rfl rfl rfl rfl rfl yh (xf n l) (CoL.refl _) rfl rfl ?_; refine qy ?_; refine a6 ?_; refine sx7 ?_; (iterate 2 refine qy ?_); refine a6 ?_; refine a8 _ rfl (fun r0 => ?_) (fun r0 => ?_)
 ·
  have h0 := r0
  have h0 := of_decide_eq_false (az h0)
  try simp only [ty] at h0
  refine sx7 ?_; (iterate 2 refine qy ?_); refine a6 ?_
  exact hx8 rfl rfl rfl (⟨cci (by unfold fp; first | (rw [if_neg (by assumption)]) | (rw [if_pos (by omega), if_pos (by omega)]) | (rw [if_pos (by omega), if_neg (by omega)])), trivial⟩)
 ·
  have h0 := r0
  have h0 := of_decide_eq_true (b4 h0)
  try simp only [ty] at h0
  refine aa ?_; refine a7 ?_; refine sx7 ?_; (iterate 2 refine qy ?_); refine a6 ?_; refine a8 _ rfl (fun r1 => ?_) (fun r1 => ?_)
  ·
   have h1 := of_decide_eq_true r1
   try simp only [ty] at h1
   refine sx7 ?_; refine qy ?_; refine a6 ?_
   exact hx8 rfl rfl rfl (⟨cci (by unfold fp; first | (rw [if_neg (by assumption)]) | (rw [if_pos (by omega), if_pos (by omega)]) | (rw [if_pos (by omega), if_neg (by omega)])), trivial⟩)
  ·
   have h1 := of_decide_eq_false r1
   try simp only [ty] at h1
   refine aa ?_; refine sx7 ?_; refine qy ?_; refine a6 ?_
   exact hx8 rfl rfl rfl (⟨cci (by unfold fp; first | (rw [if_neg (by assumption)]) | (rw [if_pos (by omega), if_pos (by omega)]) | (rw [if_pos (by omega), if_neg (by omega)])), trivial⟩)
theorem axi : goodFn Tryz.prog 88 := ⟨Tryz.f88, Tryz.func88, by kernel_rfl, by kernel_rfl⟩
theorem b06 (n : Int) (l : List Fd) (s : AS) : aj Tryz.prog 88 [pI n, pP (fdl l), pA s] (aq [pB (o8 n l s)]) := by
 refine ag (nt := 25) af Tryz.func88 rfl rfl l9 ?_; refine sx7 ?_; refine qy ?_; refine a6 ?_; refine sx7 ?_; (iterate 2 refine qy ?_); refine rc rfl rfl rfl rfl rfl rfl yh (xf n l) (CoL.refl _) rfl rfl ?_
 (iterate 2 refine qy ?_); refine bh rfl rfl (fun r0 => ?_) (fun r0 => ?_)
 ·
  have h0 := of_decide_eq_true r0
  try simp only [ty] at h0
  obtain ⟨hv0, hv1, _, _⟩ := it h0
  (iterate 4 refine qy ?_ (hg := (gtt r0))); (iterate 2 refine qy ?_); refine bh rfl rfl (fun r1 => ?_) (fun r1 => ?_)
  ·
   have h1 := r1
   have h1 := dw r0 h1
   have h1 := of_decide_eq_true h1
   try simp only [ty] at h1
   (iterate 2 refine qy ?_ (hg := (gtt r1))); refine rc rfl rfl rfl rfl rfl rfl zz (a3k l s) (CoL.refl _) rfl (gtt r1) ?_; refine qy ?_ (hg := (gtt r1))
   refine rc rfl rfl rfl rfl rfl rfl aum (ay2 n (it (by assumption)).1 (it (by assumption)).2.1) (CoL.refl _) rfl (gtt r1) ?_; refine qy ?_ (hg := (gtt r1)); (iterate 2 refine qy ?_); refine a6 ?_
   exact hx8 rfl rfl rfl (⟨ccb (by first | exact b7 (by assumption) (aqs (by assumption) (by assumption)) | exact (adv (by assumption)).symm | exact (aff (by assumption) (by assumption)).symm), trivial⟩)
  ·
   have h1 := r1
   have h1 := dw r0 h1
   have h1 := of_decide_eq_false h1
   try simp only [ty] at h1
   (iterate 6 refine k9 (gft r1) ?_); refine rq rfl rfl rfl rfl rfl ?_ (hp := r1); refine qy ?_; refine a6 ?_
   exact hx8 rfl rfl rfl (⟨ccb (by first | exact b7 (by assumption) (aqs (by assumption) (by assumption)) | exact (adv (by assumption)).symm | exact (aff (by assumption) (by assumption)).symm), trivial⟩)
 ·
  have h0 := of_decide_eq_false r0
  try simp only [ty] at h0
  (iterate 4 refine k9 (gft r0) ?_); refine rq rfl rfl rfl rfl rfl ?_ (hp := r0); refine qy ?_; (iterate 6 refine k9 rfl ?_); (iterate 2 refine qy ?_); refine a6 ?_
  exact hx8 rfl rfl rfl (⟨ccb (by first | exact b7 (by assumption) (aqs (by assumption) (by assumption)) | exact (adv (by assumption)).symm | exact (aff (by assumption) (by assumption)).symm), trivial⟩)
theorem alw : goodFn Tryz.prog 32 := ⟨Tryz.f32, Tryz.func32, by kernel_rfl, by kernel_rfl⟩
theorem am4 (a b : List AS) : aj Tryz.prog 32 [pP (asl a), pP (asl b)] (aq [pB (decide (a = b))]) := by
 refine ag (nt := 26) af Tryz.func32 rfl rfl l9 ?_; refine a7 ?_
 refine ce 0 rfl fun hn => ?_
 refine gy ?_; refine qy ?_; refine a6 ?_; refine a7 ?_; refine sx7 ?_; (iterate 5 refine qy ?_); refine a6 ?_; refine a8 _ rfl (fun r0 => ?_) (fun r0 => ?_)
 ·
  have h0 := r0
  have h0 := of_decide_eq_false (az h0)
  try simp only [ty] at h0
  refine sx7 ?_; refine qy ?_; refine a6 ?_
  exact hx8 rfl rfl rfl (⟨ccb (decide_eq_false fun e => by subst e; omega).symm, trivial⟩)
 ·
  have h0 := r0
  have h0 := of_decide_eq_true (b4 h0)
  try simp only [ty] at h0
  refine aa ?_; refine df (ι := Unit) ⟨[], []⟩ ⟨trivial, trivial⟩ (fun _i => ⟨[], []⟩) (fun _i => a = b) ?_ ?_
  ·
   refine sx7 ?_; refine qy ?_; refine a6 ?_; refine ae ?_
   refine ak (ι := Nat) ⟨[(0, some _), (1, some _)], []⟩ ⟨⟨c9, c9, trivial⟩, trivial⟩ (fun i => ⟨[(5, some (vI i))], []⟩) (fun i => i ≤ a.length ∧ (∀ j, j < i → decide (a.getD j default = b.getD j default) = true)) (fun i => a.length - i) (0) (⟨Nat.zero_le _, bt⟩) ⟨⟨zy, trivial⟩, trivial⟩ ?_
   rintro i ⟨hi, hI⟩
   refine a7 ?_; refine sx7 ?_; (iterate 4 refine qy ?_); refine a6 ?_; refine a8 _ rfl (fun r1 => ?_) (fun r1 => ?_)
   ·
    have h1 := of_decide_eq_true r1
    try simp only [ty] at h1
    refine aa ?_; refine a7 ?_; refine ae ?_; refine a7 ?_; refine ay (E := b6) af au [0, 1, 2, 3, 4, 5, 6, 7, 8] ?_; (iterate 9 refine qy ?_); refine a6 ?_; refine ⟨by kernel_rfl, ?_⟩
    refine a8 _ rfl (fun r2 => ?_) (fun r2 => ?_)
    ·
     have h2 := r2
     have h2 := of_decide_eq_false (az h2)
     try simp only [ty] at h2
     refine sx7 ?_; refine qy ?_; refine a6 ?_
     exact hx8 rfl rfl rfl (⟨ccb (decide_eq_false fun e => by subst e; simp_all).symm, trivial⟩)
    ·
     have h2 := r2
     have h2 := of_decide_eq_true (b4 h2)
     try simp only [ty] at h2
     refine aa ?_; refine gy ?_; (iterate 3 refine qy ?_); refine a6 ?_; refine ⟨i + 1, ?_, ?_, ?_⟩
     · exact ⟨by show i + 1 ≤ _; omega, be hI (decide_eq_true (d6.1 h2))⟩
     · first | omega | (dsimp only; omega)
     · exact ⟨⟨zy, c9, c9, trivial⟩, trivial⟩
   ·
    have h1 := of_decide_eq_false r1
    try simp only [ty] at h1
    refine am ?_; refine ⟨(), ?_, ?_⟩
    · exact an1 (by omega) fun j hj => hI j (by omega)
    · exact ⟨trivial, trivial⟩
  · rintro _ hj
    refine sx7 ?_; refine qy ?_; refine a6 ?_
    exact hx8 rfl rfl rfl (⟨ccb (decide_eq_true hj).symm, trivial⟩)
end Go.Hx
end
section
namespace Go.Hx
def bsz (s : AS) : Nat := (List.range 32).countP fun i => s.getLsbD i
def bef (a b : AS) : Bool := decide (bsz a < bsz b) || (decide (bsz a = bsz b) && decide (a.toNat < b.toNat))
theorem ue (a : AS) : bef a a = false := by simp [bef]
theorem l5 {a b : AS} : bef a b = true ↔ bsz a < bsz b ∨ (bsz a = bsz b ∧ a.toNat < b.toNat) := by simp [bef]
theorem sr {a b c : AS} (h : bef a b = true) (k : bef b c = true) : bef a c = true := by
 rw [l5] at *
 omega
theorem a5d {a b : AS} (h : a ≠ b) : bef a b = true ∨ bef b a = true := by
 have hn : a.toNat ≠ b.toNat := fun e => h (BitVec.eq_of_toNat_eq e)
 rw [l5, l5]
 omega
theorem aql {a b : AS} (h : bef a b = true) : bef b a = false := by
 rw [Bool.eq_false_iff]
 intro k
 have := sr h k
 rw [ue] at this
 cases this
def pb (l : List AS) : Prop := l.Pairwise fun a b => bef a b = true
theorem tv : ∀ {l k : List AS}, pb l → pb k → (∀ x, x ∈ l ↔ x ∈ k) → l = k
 | [], [], _, _, _ => rfl
 | [], y :: k, _, _, h => absurd ((h y).2 (List.mem_cons_self ..)) (by simp)
 | x :: l, [], _, _, h => absurd ((h x).1 (List.mem_cons_self ..)) (by simp)
 | x :: l, y :: k, hl, hk, h => by
  obtain ⟨h1, h2⟩ := List.pairwise_cons.1 hl
  obtain ⟨k1, k2⟩ := List.pairwise_cons.1 hk
  have e : x = y := by
   rcases List.mem_cons.1 ((h x).1 (List.mem_cons_self ..)) with e | hx
   · exact e
   · rcases List.mem_cons.1 ((h y).2 (List.mem_cons_self ..)) with e | hy
     · exact e.symm
     · have := aql (k1 x hx)
       rw [h1 y hy] at this
       cases this
  subst e
  congr 1
  refine tv h2 k2 fun z => ?_
  constructor
  · intro hz
    rcases List.mem_cons.1 ((h z).1 (List.mem_cons_of_mem _ hz)) with e | hz'
    · subst e
      have := h1 z hz
      rw [ue] at this
      cases this
    · exact hz'
  · intro hz
    rcases List.mem_cons.1 ((h z).2 (List.mem_cons_of_mem _ hz)) with e | hz'
    · subst e
      have := k1 z hz
      rw [ue] at this
      cases this
    · exact hz'
def jt (x : AS) : List AS → List AS
 | [] => [x]
 | y :: l => if x = y then y :: l else if bef x y = true then x :: y :: l else y :: jt x l
theorem a2b {x z : AS} : ∀ {l : List AS}, z ∈ jt x l ↔ z = x ∨ z ∈ l
 | [] => by simp [jt]
 | y :: l => by
  unfold jt
  split
  · rename_i e
    subst e
    simp
  · split
    · simp
    · rw [List.mem_cons, a2b, List.mem_cons]
      constructor
      · rintro (h | h | h) <;> simp [h]
      · rintro (h | h | h) <;> simp [h]
theorem a69 {x : AS} : ∀ {l : List AS}, pb l → pb (jt x l)
 | [], _ => by simp [jt, pb]
 | y :: l, h => by
  obtain ⟨h1, h2⟩ := List.pairwise_cons.1 h
  unfold jt
  split
  · exact h
  · split
    · rename_i hxy
      refine List.pairwise_cons.2 ⟨fun z hz => ?_, h⟩
      rcases List.mem_cons.1 hz with rfl | hz
      · exact hxy
      · exact sr hxy (h1 z hz)
    · rename_i hne hxy
      refine List.pairwise_cons.2 ⟨fun z hz => ?_, a69 h2⟩
      rcases a2b.1 hz with rfl | hz
      · exact (a5d hne).resolve_left hxy
      · exact h1 z hz
def ord (l : List AS) : List AS := l.foldl (fun o x => jt x o) []
theorem a5k : ∀ {l o : List AS}, pb o → pb (l.foldl (fun o x => jt x o) o) ∧ ∀ z, z ∈ l.foldl (fun o x => jt x o) o ↔ z ∈ o ∨ z ∈ l
 | [], o, h => ⟨h, fun z => by simp⟩
 | x :: l, o, h => by
  obtain ⟨h1, h2⟩ := a5k (l := l) (a69 (x := x) h)
  refine ⟨h1, fun z => ?_⟩
  show z ∈ l.foldl (fun o x => jt x o) (jt x o) ↔ _
  rw [h2 z, a2b, List.mem_cons]
  constructor
  · rintro ((h | h) | h) <;> simp [h]
  · rintro (h | h | h) <;> simp [h]
theorem vi (l : List AS) : pb (ord l) := (a5k (o := []) List.Pairwise.nil).1
theorem a5l {l : List AS} {z : AS} : z ∈ ord l ↔ z ∈ l := by
 show z ∈ l.foldl (fun o x => jt x o) [] ↔ _
 rw [(a5k (l := l) (o := []) List.Pairwise.nil).2 z]
 simp
theorem ay9 {l k : List AS} (hk : pb k) (h : ∀ z, z ∈ k ↔ z ∈ l) : k = ord l := tv hk (vi l) fun z => by rw [h z, a5l]
end Go.Hx
end
