/- A part of the proof: Ch12 Ch13 X15 Ch14 Ch19 Ch21 Cc1 Cc2 Cc3 Ls1 Cs24 V23 Cs26 Cs27 Cs28 Cs30 Cs31 Cs32 Cs33 Cs34 Cs35 Cs36. -/
import Derived.Test.YtidophngianjiaaGreatDoor5x20
import Derived.Test.YtidophngianjiaaGreatDoor5x26
set_option linter.all false
section
namespace Go.Hx
theorem a5u {r : Rw} : ∀ {l : List Rw}, r ∉ l → (fl r l).length = l.length + 1
 | [], _ => rfl
 | y :: l, h => by
  unfold fl
  have h1 : ¬ r = y := fun e => h (by rw [e]; simp)
  have h2 := a5u (l := l) (r := r) fun e => h (by simp [e])
  rw [if_neg h1]
  split
  · simp
  · simp only [List.length_cons]; omega
theorem acl {l : List Rw} {r : Rw} (ho : kj l) : c4 (l ++ [r]) = fl r l := by
 have e : l = c4 l := a5h ho fun _ => Iff.rfl
 have : c4 (l ++ [r]) = fl r (c4 l) := by
  unfold c4
  rw [List.foldl_append]
  rfl
 rw [this, ← e]
section
variable {n : Int} {l : List Rw} {a b : Nat} {x : Fd}
abbrev fdL (l : List Rw) (a b : Nat) (x : Fd) : List Rw := c4 (cr l (eqMs (da l) a b (aw x.rhs)))
theorem aif (hT : tok n l = true) (hu : inU n x = true) (ha : a < l.length) (hb : b < l.length) (hs : f7 l x a b = true) :
 fdE n l a b x = (n, fdL l a b x, 0) ∧ tok n (fdL l a b x) = true ∧ (∀ z, (∃ r, r ∈ fdL l a b x ∧ z ∈ r) → ∃ r, r ∈ l ∧ z ∈ r) ∧ ∀ Z, Cov Z l → muC Z (fdL l a b x) < muC Z l := by
 obtain ⟨h0, h1, h2, h3⟩ := jd hT
 have hw := w8 hT
 unfold f7 at hs
 rw [Bool.and_eq_true, Bool.not_eq_true'] at hs
 obtain ⟨hl, hr⟩ := hs
 have hj : ∀ j, j ∈ aw x.rhs → j < (l.getD a default).length ∧ j < (l.getD b default).length := fun j hj => by
  have := a1r h0 h1 hu hj
  exact ⟨by rw [h3 a ha]; exact this, by rw [h3 b hb]; exact this⟩
 have hV : ∀ z, (∃ r, r ∈ fdL l a b x ∧ z ∈ r) → ∃ r, r ∈ l ∧ z ∈ r := fun z ⟨r, hr, hz⟩ => a8v.1 (a4i ha hb hj (y9.1 ⟨r, dn.1 hr, hz⟩))
 have hlen : (fdL l a b x).length ≤ l.length := Nat.le_trans (acq _) (Nat.le_of_eq (j8 _ _))
 refine ⟨if_pos hl, a2j h0 h1 (Nat.le_trans hlen h2) (fun r hr => ⟨?_, fun z hz => ?_⟩), hV, fun Z hZ => ?_⟩
 · unfold cr at hr
   rw [List.mem_map] at hr
   obtain ⟨i, hi, rfl⟩ := hr
   rw [List.length_map, List.length_range]
   exact h3 i (List.mem_range.1 hi)
 · obtain ⟨r2, h5, h6⟩ := hV z ⟨r, dn.2 hr, hz⟩
   exact (hw r2 h5).2 z h6
 · have hne : ∃ j, j ∈ aw x.rhs ∧ ¬ da l a j = da l b j := by
    apply Classical.byContradiction
    intro hno
    rw [abt] at hr
    · cases hr
    · intro i hi hh
      apply Classical.byContradiction
      intro e
      have hi2 : i < 32 := by
       have := h3 a ha
       omega
      rw [sh hi2] at hh
      exact hno ⟨i, md.2 ⟨hi2, hh⟩, e⟩
   obtain ⟨z, hz1, hz2⟩ := a2g ha hb hj hne
   have hz3 := a8v.1 hz1
   have := aji (Z := Z) hV ⟨z, by obtain ⟨r, h7, h8⟩ := hz3; exact hZ r h7 z h8, hz3, fun ⟨r, h7, h8⟩ => hz2 (y9.1 ⟨r, dn.1 h7, h8⟩)⟩
   unfold muC
   omega
abbrev mvL (l : List Rw) (a b : Nat) (x : Fd) : List Rw := c4 (l ++ [dx (l.getD a default) (l.getD b default) (x.lhs ||| x.rhs)])
theorem apu (hT : tok n l = true) (ha : a < l.length) (hb : b < l.length) (hs : f4 l x a b = true) :
 mvE n l a b x = (0, [], 3) ∨ (mvE n l a b x = (n, mvL l a b x, 0) ∧ tok n (mvL l a b x) = true ∧ (∀ z, (∃ r, r ∈ mvL l a b x ∧ z ∈ r) → ∃ r, r ∈ l ∧ z ∈ r) ∧ ∀ Z, Cov Z l → muC Z (mvL l a b x) < muC Z l) := by
 obtain ⟨h0, h1, h2, h3⟩ := jd hT
 have hw := w8 hT
 unfold f4 at hs
 rw [Bool.and_eq_true, Bool.not_eq_true'] at hs
 obtain ⟨hl, hr⟩ := hs
 have hno := ak3 hr
 have hE : mvE n l a b x = l5 n l (dx (l.getD a default) (l.getD b default) (x.lhs ||| x.rhs)) := if_pos hl
 by_cases hbig : 256 < (mvL l a b x).length
 · left
   rw [hE]
   exact if_pos hbig
 · right
   have hmem : ∀ z, z ∈ dx (l.getD a default) (l.getD b default) (x.lhs ||| x.rhs) → z ∈ l.getD a default ∨ z ∈ l.getD b default := fun z hz => by
    unfold dx at hz
    rw [List.mem_map] at hz
    obtain ⟨i, hi, rfl⟩ := hz
    have hi := List.mem_range.1 hi
    have hi2 : i < (l.getD a default).length := by rw [h3 a ha, ← h3 b hb]; exact hi
    split
    · left
      rw [List.getD_eq_getElem?_getD (l := l.getD a default), List.getElem?_eq_getElem hi2]
      exact List.getElem_mem hi2
    · right
      rw [List.getD_eq_getElem?_getD (l := l.getD b default), List.getElem?_eq_getElem hi]
      exact List.getElem_mem hi
   have hV : ∀ z, (∃ r, r ∈ mvL l a b x ∧ z ∈ r) → ∃ r, r ∈ l ∧ z ∈ r := fun z ⟨r, hr, hz⟩ => by
    rcases List.mem_append.1 (dn.1 hr) with h | h
    · exact ⟨r, h, hz⟩
    · rw [List.mem_singleton] at h
      subst h
      rcases hmem z hz with h | h
      · exact ⟨_, wu ha, h⟩
      · exact ⟨_, wu hb, h⟩
   refine ⟨by rw [hE]; exact if_neg hbig, a2j h0 h1 (Nat.le_of_not_lt fun e => hbig e) (fun r hr => ⟨?_, fun z hz => ?_⟩), hV, fun Z hZ => ?_⟩
   · rcases List.mem_append.1 hr with h | h
     · exact (hw r h).1
     · rw [List.mem_singleton] at h
       subst h
       rw [se]
       exact h3 b hb
   · obtain ⟨r2, h5, h6⟩ := hV z ⟨r, dn.2 hr, hz⟩
     exact (hw r2 h5).2 z h6
   · have e : (mvL l a b x).length = l.length + 1 := by
      show (c4 _).length = _
      rw [acl (ajo hT), a5u hno]
     have := alk (Z := Z) hV
     unfold muC
     omega
end
theorem aem {α : Type} {f : Nat → Option α} : ∀ {n : Nat} {x : α}, (List.range n).findSome? f = some x → ∃ k, k < n ∧ f k = some x := fun {n x} h => by
 obtain ⟨k, hk, e⟩ := List.exists_of_findSome?_eq_some h
 exact ⟨k, List.mem_range.1 hk, e⟩
theorem a06 {P : Nat → Nat → Nat → Bool} {I L i a b : Nat} (h : ir P I L = some (i, a, b)) : i < I ∧ a < L ∧ b < L ∧ P i a b = true := by
 obtain ⟨i', hi, h⟩ := aem h
 obtain ⟨a', ha, h⟩ := aem h
 rw [Option.map_eq_some_iff] at h
 obtain ⟨b', hb, e⟩ := h
 simp only [Prod.mk.injEq] at e
 obtain ⟨rfl, rfl, rfl⟩ := e
 exact ⟨hi, ha, List.mem_range.1 (List.mem_of_find?_eq_some hb), by simpa using List.find?_some hb⟩
def a5i (l : List Rw) (p m : List Fd) (s : St) : Prop := s.2.2.1 < l.length ∧ s.2.2.2 < l.length ∧ ((s.1 = false ∧ s.2.1 < p.length ∧ f7 l (p.getD s.2.1 default) s.2.2.1 s.2.2.2 = true) ∨ (s.1 = true ∧ s.2.1 < m.length ∧ f4 l (m.getD s.2.1 default) s.2.2.1 s.2.2.2 = true))
theorem a8z {l : List Rw} {p m : List Fd} {s : St} (h : eq l p m = some s) : a5i l p m s := by
 unfold eq at h
 split at h
 · rename_i x e
   simp only [Option.some.injEq] at h
   subst h
   obtain ⟨i, a, b⟩ := x
   obtain ⟨h1, h2, h3, h4⟩ := a06 e
   exact ⟨h2, h3, .inl ⟨rfl, h1, h4⟩⟩
 · rw [Option.map_eq_some_iff] at h
   obtain ⟨⟨i, a, b⟩, e, rfl⟩ := h
   obtain ⟨h1, h2, h3, h4⟩ := a06 e
   exact ⟨h2, h3, .inr ⟨rfl, h1, h4⟩⟩
def ec (n : Int) (l : List Rw) (p m : List Fd) (s : St) : Int × List Rw × Int := if s.1 = true then mvE n l s.2.2.1 s.2.2.2 (m.getD s.2.1 default) else fdE n l s.2.2.1 s.2.2.2 (p.getD s.2.1 default)
theorem ado {n : Int} {l : List Rw} {p m : List Fd} {s : St} (hT : tok n l = true) (hp : p.all (inU n) = true) (h : a5i l p m s) :
 ec n l p m s = (0, [], 3) ∨ ∃ l', ec n l p m s = (n, l', 0) ∧ tok n l' = true ∧ (∀ Z, Cov Z l → Cov Z l' ∧ muC Z l' < muC Z l) := by
 obtain ⟨ha, hb, h | h⟩ := h
 · obtain ⟨h1, h2, h3⟩ := h
   have hu : inU n (p.getD s.2.1 default) = true := List.all_eq_true.1 hp _ (by rw [List.getD_eq_getElem?_getD, List.getElem?_eq_getElem h2]; exact List.getElem_mem h2)
   obtain ⟨e, h4, h5, h6⟩ := aif hT hu ha hb h3
   exact .inr ⟨_, by unfold ec; rw [if_neg (by rw [h1]; decide)]; exact e, h4, fun Z hZ => ⟨fun r hr z hz => by obtain ⟨r2, h7, h8⟩ := h5 z ⟨r, hr, hz⟩; exact hZ r2 h7 z h8, h6 Z hZ⟩⟩
 · obtain ⟨h1, h2, h3⟩ := h
   rcases apu hT ha hb h3 with e | ⟨e, h4, h5, h6⟩
   · exact .inl (by unfold ec; rw [if_pos h1]; exact e)
   · exact .inr ⟨_, by unfold ec; rw [if_pos h1]; exact e, h4, fun Z hZ => ⟨fun r hr z hz => by obtain ⟨r2, h7, h8⟩ := h5 z ⟨r, hr, hz⟩; exact hZ r2 h7 z h8, h6 Z hZ⟩⟩
def fz : Nat → Int → List Rw → List Fd → List Fd → List St → List St × (Int × List Rw) × Int
 | 0, _, _, _, _, _ => ([], (0, []), 0)
 | f + 1, n, l, p, m, acc =>
  match eq l p m with
  | none => (acc, (n, l), 0)
  | some s => match ec n l p m s with
   | (n', l', e) => if e = 0 then fz f n' l' p m (acc ++ [s]) else ([], (0, []), e)
theorem a9c {f : Nat} {n : Int} {l : List Rw} {p m : List Fd} {acc : List St} (hf : 0 < f) (h : eq l p m = none) : fz f n l p m acc = (acc, (n, l), 0) := by
 obtain ⟨g, rfl⟩ : ∃ g, f = g + 1 := ⟨f - 1, by omega⟩
 unfold fz
 rw [h]
theorem a9n {f : Nat} {n : Int} {l : List Rw} {p m : List Fd} {acc : List St} {s : St} (hf : 0 < f) (h : eq l p m = some s) {n' e : Int} {l' : List Rw} (h2 : ec n l p m s = (n', l', e)) (he : ¬ e = 0) : fz f n l p m acc = ([], (0, []), e) := by
 obtain ⟨g, rfl⟩ : ∃ g, f = g + 1 := ⟨f - 1, by omega⟩
 unfold fz
 rw [h]
 simp only
 rw [h2]
 simp only
 rw [if_neg he]
theorem a74 {f : Nat} {n : Int} {l : List Rw} {p m : List Fd} {acc : List St} {s : St} (hf : 0 < f) (h : eq l p m = some s) {n' : Int} {l' : List Rw} (h2 : ec n l p m s = (n', l', 0)) : fz f n l p m acc = fz (f - 1) n' l' p m (acc ++ [s]) := by
 obtain ⟨g, rfl⟩ : ∃ g, f = g + 1 := ⟨f - 1, by omega⟩
 rw [Nat.add_sub_cancel]
 conv => lhs; unfold fz
 rw [h]
 simp only
 rw [h2]
 simp only
 rw [if_pos trivial]
end Go.Hx
end
section
namespace Go.Hx
open Go.Proofs
theorem aoc (n : Int) (l : List Rw) (p m : List Fd) (s : St) (hT : tok n l = true) (hp : p.all (inU n) = true) (h : a5i l p m s) :
 ai Tryz.prog 183 [pT n l, pP (fdl p), pP (fdl m), s.pc] (al [pT (ec n l p m s).1 (ec n l p m s).2.1, pI (ec n l p m s).2.2]) := by
 obtain ⟨mu, i, a, b⟩ := s
 obtain ⟨ha, hb, h | h⟩ := h
 · obtain ⟨h1, h2, h3⟩ := h
   cases h1
   exact alg n l p m i a b hT ha hb h2 (List.all_eq_true.1 hp _ (by rw [List.getD_eq_getElem?_getD, List.getElem?_eq_getElem h2]; exact List.getElem_mem h2))
 · obtain ⟨h1, h2, h3⟩ := h
   cases h1
   exact aka n l p m i a b hT ha hb h2
abbrev St.c (s : St) : Nat → PV := fun j => [.raw (.bool s.1), .raw (.int .i64 (s.2.1 : Int)), .raw (.int .i64 (s.2.2.1 : Int)), .raw (.int .i64 (s.2.2.2 : Int))].getD j .any
abbrev stl (l : List St) : PV := psl 4 St.c l
abbrev ckE (n : Int) (l : List Rw) (p m : List Fd) : Int := if tok n l = true then cj n p m else 1
theorem an4 {n : Int} {l : List Rw} {p m : List Fd} (h : ckE n l p m = 0) : tok n l = true ∧ cj n p m = 0 ∧ p.all (inU n) = true := by
 unfold ckE at h
 by_cases e : tok n l = true
 · rw [if_pos e] at h
   exact ⟨e, h, (ng h).2.2.2.1⟩
 · rw [if_neg e] at h; omega
def jp (F : Nat) (n : Int) (l : List Rw) (p m : List Fd) : List St × (Int × List Rw) × Int := if ckE n l p m = 0 then fz F n l p m [] else ([], (0, []), ckE n l p m)
theorem af5 {F : Nat} {n : Int} {l : List Rw} {p m : List Fd} (h : ¬ ckE n l p m = 0) : jp F n l p m = ([], (0, []), ckE n l p m) := if_neg h
theorem a5a {F : Nat} {n : Int} {l : List Rw} {p m : List Fd} (h : ckE n l p m = 0) : jp F n l p m = fz F n l p m [] := if_pos h
theorem akd {α : Type} {o : Option α} (h : o.isSome = false) : o = none := by cases o <;> simp_all
theorem am8 {α : Type} {o : Option α} (d : α) (h : o.isSome = true) : o = some (o.getD d) := by cases o <;> simp_all
theorem ahd (l : List Rw) : Cov l.flatten l := fun r hr z hz => List.mem_flatten.2 ⟨r, hr, hz⟩
structure StI (F : Nat) (n : Int) (l : List Rw) (p m : List Fd) (x : Nat × List Rw × List St) : Prop where
 t : tok n x.2.1 = true
 c : Cov l.flatten x.2.1
 u : muC l.flatten x.2.1 < x.1
 b : x.2.2.length + x.1 ≤ F
 e : fz x.1 n x.2.1 p m x.2.2 = fz F n l p m []
theorem StI.start {F : Nat} {n : Int} {l : List Rw} {p m : List Fd} (hT : tok n l = true) (hF : muC l.flatten l < F) : StI F n l p m (F, l, []) := ⟨hT, ahd l, hF, by simp, rfl⟩
theorem StI.next {F : Nat} {n : Int} {l : List Rw} {p m : List Fd} {x : Nat × List Rw × List St} {s : St} (h : StI F n l p m x) (hp : p.all (inU n) = true) (hS : eq x.2.1 p m = some s) (he : (ec n x.2.1 p m s).2.2 = 0) :
 (ec n x.2.1 p m s).1 = n ∧ StI F n l p m (x.1 - 1, (ec n x.2.1 p m s).2.1, x.2.2 ++ [s]) := by
 have hu := h.u
 have hb := h.b
 rcases ado h.t hp (a8z hS) with e | ⟨l', e, h1, h2⟩
 · rw [e] at he; exact absurd he (by decide)
 · have hq := h2 _ h.c
   refine ⟨by rw [e], ?_⟩
   rw [e]
   exact ⟨h1, hq.1, by show muC _ l' < _; omega, by simp only [List.length_append, List.length_singleton]; omega, by rw [← h.e, a74 (by omega) hS e]⟩
theorem StI.fin {F : Nat} {n : Int} {l : List Rw} {p m : List Fd} {x : Nat × List Rw × List St} (h : StI F n l p m x) (hS : eq x.2.1 p m = none) : fz F n l p m [] = (x.2.2, (n, x.2.1), 0) := by
 have hu := h.u
 rw [← h.e, a9c (by omega) hS]
theorem StI.err {F : Nat} {n : Int} {l : List Rw} {p m : List Fd} {x : Nat × List Rw × List St} {s : St} (h : StI F n l p m x) (hS : eq x.2.1 p m = some s) (he : ¬ (ec n x.2.1 p m s).2.2 = 0) : fz F n l p m [] = ([], (0, []), (ec n x.2.1 p m s).2.2) := by
 have hu := h.u
 rw [← h.e]
 exact a9n (by omega) hS rfl he
end Go.Hx
end
section
namespace Go.Hx
open Go.Proofs
set_option maxRecDepth 100000
theorem akn : goodFn Tryz.prog 149 := ⟨Tryz.f149, Tryz.func149, by kernel_rfl, by kernel_rfl⟩
theorem amc (F : Nat) (n : Int) (l : List Rw) (p m : List Fd) (hF : tok n l = true → muC l.flatten l < F) (hFb : F ≤ 4000000000) : ai Tryz.prog 149 [pT n l, pP (fdl p), pP (fdl m)] (al [pP (stl (jp F n l p m).1), pT (jp F n l p m).2.1.1 (jp F n l p m).2.1.2, pI (jp F n l p m).2.2]) := by
 refine aj (nt := 53) ah Tryz.func149 rfl rfl l9 ?_; refine sx7 ?_; refine m9 0 ?_; refine qy ?_; refine m9 1 ?_; refine qy ?_; refine a6 ?_; refine a7 ?_; refine sx7 ?_; (iterate 3 refine qy ?_)
 refine rc rfl rfl rfl rfl rfl rfl alw (ag7 n l p m) (CoL.refl _) rfl rfl ?_; refine qy ?_; refine a6 ?_; refine sx7 ?_; (iterate 2 refine qy ?_); refine a6 ?_; refine a8 _ rfl (fun r0 => ?_) (fun r0 => ?_)
 ·
  have h0 := r0
  have h0 := of_decide_eq_false (b8 h0)
  try simp only [ty] at h0
  refine sx7 ?_; (iterate 3 refine qy ?_); refine s9 ?_; refine qy ?_; refine a6 ?_; refine bi ?_; refine ⟨.inr rfl, ?_⟩
  have he := af5 (F := F) (n := n) (l := l) (p := p) (m := m) (by assumption)
  exact f9 rfl rfl (by rw [he]; exact ⟨CoC.one (CoP.sl rfl (.inr rfl) (fun _ => rfl) (fun i j hi _ => absurd hi (Nat.not_lt_zero i))), CoC.agg ⟨CoP.refl _, fb, trivial⟩, CoC.refl _, trivial⟩)
 ·
  have h0 := r0
  have h0 := of_decide_eq_true (b7 h0)
  try simp only [ty] at h0
  have hck : ckE n l p m = 0 := by assumption
  obtain ⟨hT, hbe, hpa⟩ := an4 hck
  obtain ⟨hn0, hn16, hl256, hrow⟩ := jd hT
  have hbig : ∀ i, i < l.length → (l.getD i default).length ≤ 17592186044416 := fun i hi => by rw [hrow i hi]; omega
  refine aa ?_; refine sx7 ?_; refine qy ?_; refine rc rfl rfl rfl rfl rfl rfl a1d (ai1 n l hbig (by omega)) (CoL.refl _) rfl rfl ?_; refine s9 ?_; refine a6 ?_; refine sx7 ?_; refine qy ?_; refine a6 ?_
  refine gf 10 900 true 4 155 (lf St.c []) (by decide) rfl (CoP.sl rfl (.inr rfl) (fun h => h) (fun i j hi _ => absurd hi (Nat.not_lt_zero i))) (.inr rfl) rfl ?_; refine ab ?_
  refine ao (ι := Nat × List Rw × List St) ⟨[(1, some _), (2, some _), (3, some _), (7, some _)], [(1, some _)]⟩ ⟨⟨c9, c9, c9, c9, trivial⟩, ⟨u9, trivial⟩⟩ (fun x => ⟨[(10, some (.v (.one (.ref 900 x.2.2.length))))], [(0, some (.box [.p (.raw (.int .i64 n)), .p (rl x.2.1)])), (900, some (.arr true 4 155 x.2.2.length (lf St.c x.2.2)))]⟩) (fun x => StI F n l p m x) (fun x => x.1) ((F, l, [])) (StI.start hT (hF hT)) ⟨⟨zy, trivial⟩, ⟨u9, u9, trivial⟩⟩ ?_
  rintro x hX
  have hXu := hX.u
  have hXb := hX.b
  refine ab ?_; refine sx7 ?_; (iterate 3 refine qy ?_); refine rc rfl rfl rfl rfl rfl rfl ak7 (ano n x.2.1 p m hX.t) (CoL.refl _) rfl rfl ?_; (iterate 3 refine qy ?_); refine m9 2 ?_; refine s9 ?_; refine qy ?_
  refine a6 ?_; refine a7 ?_; refine sx7 ?_; (iterate 2 refine qy ?_); refine a6 ?_; refine a8 _ rfl (fun r1 => ?_) (fun r1 => ?_)
  ·
   have h1 := r1
   have h1 := b8 h1
   have hS := akd (by simpa using h1)
   refine a7 ?_; refine br (E := c6) ah bh [0, 1, 2, 3, 4] ?_; (iterate 3 refine qy ?_); refine s9 ?_; refine qy ?_; refine a6 ?_; refine ⟨by kernel_rfl, ?_⟩; refine ce 6 rfl rfl rfl ?_
   refine bi ?_; refine ⟨.inr rfl, ?_⟩
   have he := (a5a hck).trans (hX.fin hS)
   exact f9 rfl rfl (by rw [he]; exact CoL.refl _)
  ·
   have h1 := r1
   have h1 := b7 h1
   have hS := am8 (false, 0, 0, 0) (by simpa using h1)
   refine aa ?_; refine sx7 ?_; (iterate 4 refine qy ?_); refine rc rfl rfl rfl rfl rfl rfl ajs (aoc n x.2.1 p m ((eq x.2.1 p m).getD (false, 0, 0, 0)) hX.t hpa (a8z hS)) (CoL.refl _) rfl rfl ?_
   (iterate 3 refine qy ?_); refine m9 3 ?_; refine s9 ?_; refine qy ?_; refine a6 ?_; refine a7 ?_; refine sx7 ?_; (iterate 2 refine qy ?_); refine a6 ?_; refine a8 _ rfl (fun r2 => ?_) (fun r2 => ?_)
   ·
    have h2 := r2
    have h2 := of_decide_eq_false (b8 h2)
    try simp only [ty] at h2
    refine sx7 ?_; (iterate 3 refine qy ?_); refine s9 ?_; refine qy ?_; refine a6 ?_; refine bi ?_; refine ⟨.inr rfl, ?_⟩
    have he := (a5a hck).trans (hX.err hS (by assumption))
    exact f9 rfl rfl (by rw [he]; exact ⟨CoC.one (CoP.sl rfl (.inr rfl) (fun _ => rfl) (fun i j hi _ => absurd hi (Nat.not_lt_zero i))), CoC.agg ⟨CoP.refl _, fb, trivial⟩, CoC.refl _, trivial⟩)
   ·
    have h2 := r2
    have h2 := of_decide_eq_true (b7 h2)
    try simp only [ty] at h2
    have hnx := hX.next hpa hS (by assumption)
    refine aa ?_; refine br (E := c6) ah bh [0, 1, 2, 3, 4, 5, 6] ?_; (iterate 2 refine qy ?_); refine m9 4 ?_; refine ra 5 true rfl rfl rfl rfl rfl rfl ?_; (iterate 2 refine qy ?_); refine s9 ?_
    refine a6 ?_; refine ⟨by kernel_rfl, ?_⟩; refine ⟨(x.1 - 1, (ec n x.2.1 p m ((eq x.2.1 p m).getD (false, 0, 0, 0))).2.1, x.2.2 ++ [((eq x.2.1 p m).getD (false, 0, 0, 0))]), ?_, ?_, ?_⟩
    · exact hnx.2
    · show x.1 - 1 < x.1
      omega
    · exact ⟨⟨⟨_, rfl, (fv rfl)⟩, c9, c9, c9, c9, trivial⟩, ⟨⟨_, rfl, ⟨CoP.of_eq (by rw [hnx.1]), CoH.refl _, trivial⟩⟩, ⟨_, rfl, (a0u rfl (fun j hj => by match j, hj with | 0, _ => exact CoP.refl _ | 1, _ => exact CoP.refl _ | 2, _ => exact CoP.refl _ | 3, _ => exact CoP.refl _) rfl)⟩, u9, trivial⟩⟩
end Go.Hx
end
section
namespace Go.Hx
theorem a56 : ∀ {l : List Rw}, (∀ r, r ∈ l → r.length ≤ 16) → l.flatten.length ≤ 16 * l.length
 | [], _ => by simp
 | r :: l, h => by
  have h1 := h r (by simp)
  have h2 := a56 (l := l) fun r hr => h r (by simp [hr])
  simp only [List.flatten_cons, List.length_append, List.length_cons]
  omega
abbrev FU : Nat := 1300000
theorem ann {n : Int} {l : List Rw} (h : tok n l = true) : muC l.flatten l < FU := by
 obtain ⟨h0, h1, h2, h3⟩ := jd h
 have h4 := a56 (l := l) fun r hr => by have := (w8 h r hr).1; omega
 have h5 : a14 l.flatten l ≤ l.flatten.length := List.countP_le_length
 unfold muC
 show _ < 1300000
 omega
theorem amn {n : Int} {i : Nat} {p : AS} {k a N : Nat} (h : dm p (k : Int) = true) (hN : N = n.toNat) (ha : a = k) :
 CoO (.arr true 1 3 N (dq (lf zC (stT n i p k)) a 0 [.raw (.int .i64 (k : Int))])) (.arr true 1 3 N (lf zC (stT n i p (k + 1)))) := by
 subst ha
 refine ⟨fun h => h, rfl, rfl, rfl, fun c j hc hj => CoP.of_eq ?_⟩
 obtain rfl : j = 0 := by omega
 show _ = PV.raw (.int .i64 ((stT n i p (a + 1)).getD c default))
 rw [z6 c (by omega)]
 unfold dq
 by_cases e : c = a
 · rw [if_pos ⟨e, by omega, by simp⟩, if_pos e]
   unfold stV
   rw [if_pos h]
   rfl
 · rw [if_neg (fun x => e x.1), if_neg e]
   rfl
theorem ady {k : Nat} (h : k < 32) : dm (er 32) (k : Int) = true := by
 rw [sh h, ke 32 k h]
 exact decide_eq_true h
theorem ac3 {n : Int} {k : Nat} (h1 : n ≤ 16) (hk : n.toNat ≤ k) : stT n 0 (er 32) k = fg n := by
 rw [a8t _ _ _ hk]
 unfold stR fg
 refine List.map_congr_left fun c hc => ?_
 have := List.mem_range.1 hc
 unfold stV
 rw [if_pos (ady (by omega))]
theorem acu {n : Int} {k : Nat} (h1 : n ≤ 16) (hk : n.toNat ≤ k) : CoC (.one (.sl n.toNat 1 false (lf zC (stT n 0 (er 32) k)))) (pZ (fg n)) := by
 rw [ac3 h1 hk]
 exact aih (a9q n)
abbrev og (n : Int) (x : Fd) : List AS := [x.lhs ||| x.rhs, x.lhs ||| (ay n &&& ~~~x.rhs)]
def asn (n : Int) (p m : List Fd) (x : Fd) : Bool × Int :=
 if cj n p m = 0 then
  if inU n x = true then
   if (dv n (og n x)).2.2 = 0 then
    if (jp FU (dv n (og n x)).1 (dv n (og n x)).2.1 p m).2.2 = 0 then ((jp FU (dv n (og n x)).1 (dv n (og n x)).2.1 p m).2.1.2.any (fun r => decide (r = fg n)), 0)
    else (false, (jp FU (dv n (og n x)).1 (dv n (og n x)).2.1 p m).2.2)
   else (false, (dv n (og n x)).2.2)
  else (false, 1)
 else (false, cj n p m)
end Go.Hx
end
section
namespace Go.Hx
open Go.Proofs
def muK (p : List Fd) (k : Nat) : Bool := decide (p.length ≤ k)
def ixK (p : List Fd) (k : Nat) : Nat := if p.length ≤ k then k - p.length else k
def chE (l : List Rw) (p m : List Fd) (s : St) : Bool := if s.1 = true then apj l (m.getD s.2.1 default) s.2.2.1 s.2.2.2 else f7 l (p.getD s.2.1 default) s.2.2.1 s.2.2.2
def aqb (l : List Rw) (p m : List Fd) (k a b : Nat) : Bool := decide (a ≠ b) && chE l p m (muK p k, ixK p k, a, b)
def asb (l : List Rw) (p m : List Fd) : Option St := (ir (aqb l p m) (p.length + m.length) l.length).map fun x => (muK p x.1, ixK p x.1, x.2.1, x.2.2)
section
variable {l : List Rw} {p m : List Fd} {k a b : Nat}
end
end Go.Hx
end
section
namespace Go.Hx
def agt (l : List Rw) (p m : List Fd) (mu : Bool) (i a b : Int) : Prop := a < 0 ∨ (l.length : Int) ≤ a ∨ b < 0 ∨ (l.length : Int) ≤ b ∨ a = b ∨ i < 0 ∨ (mu = true ∧ (m.length : Int) ≤ i) ∨ (mu = false ∧ (p.length : Int) ≤ i)
instance (l : List Rw) (p m : List Fd) (mu : Bool) (i a b : Int) : Decidable (agt l p m mu i a b) := by unfold agt; infer_instance
def as2 (n : Int) (l : List Rw) (p m : List Fd) (mu : Bool) (i a b : Int) : Int × List Rw × Int :=
 if ckE n l p m = 0 then if agt l p m mu i a b then (0, [], 1) else ec n l p m (mu, i.toNat, a.toNat, b.toNat) else (0, [], ckE n l p m)
section
variable {n : Int} {l : List Rw} {p m : List Fd} {mu : Bool} {i a b : Int}
end
end Go.Hx
end
section
namespace Go.Hx
def AgE (E : Int → Int → Prop) (a b : Rw) (s : AS) : Prop := ∀ i : Nat, i < a.length → dm s (i : Int) = true → E (a.getD i default) (b.getD i default)
structure Mdl (N : Nat) (p m : List Fd) (E : Int → Int → Prop) (R : Rw → Prop) : Prop where
 refl : ∀ x, E x x
 symm : ∀ {x y}, E x y → E y x
 trans : ∀ {x y z}, E x y → E y z → E x z
 len : ∀ {r}, R r → r.length = N
 cong : ∀ {r r' : Rw}, R r → r'.length = r.length → (∀ i, i < r.length → E (r.getD i default) (r'.getD i default)) → R r'
 fd : ∀ {x}, x ∈ p → ∀ {a b}, R a → R b → AgE E a b x.lhs → AgE E a b x.rhs
 mv : ∀ {x}, x ∈ m → ∀ {a b}, R a → R b → AgE E a b x.lhs → R (dx a b (x.lhs ||| x.rhs))
def LE (N : Nat) (p m : List Fd) (l : List Rw) (x y : Int) : Prop := ∀ E R, Mdl N p m E R → (∀ r, r ∈ l → R r) → E x y
def LR (N : Nat) (p m : List Fd) (l : List Rw) (r : Rw) : Prop := ∀ E R, Mdl N p m E R → (∀ r, r ∈ l → R r) → R r
theorem al1 (N : Nat) (p m : List Fd) : Mdl N p m (fun _ _ => True) (fun r => r.length = N) :=
 ⟨fun _ => trivial, fun _ => trivial, fun _ _ => trivial, fun h => h, fun h e _ => e.trans h, fun _ _ _ _ _ _ _ _ _ => trivial, fun _ a b _ hb _ => (se _ _ _).trans hb⟩
theorem wz {N : Nat} {p m : List Fd} {l : List Rw} (hl : ∀ r, r ∈ l → r.length = N) : Mdl N p m (LE N p m l) (LR N p m l) where
 refl x := fun E R h _ => h.refl x
 symm h := fun E R k kl => k.symm (h E R k kl)
 trans h h2 := fun E R k kl => k.trans (h E R k kl) (h2 E R k kl)
 len h := h _ _ (al1 N p m) hl
 cong h e h2 := fun E R k kl => k.cong (h E R k kl) e fun i hi => h2 i hi E R k kl
 fd hx _ _ ha hb hl := fun i hi hs E R k kl => k.fd hx (ha E R k kl) (hb E R k kl) (fun j hj hh => hl j hj hh E R k kl) i hi hs
 mv hx _ _ ha hb hl := fun E R k kl => k.mv hx (ha E R k kl) (hb E R k kl) fun j hj hh => hl j hj hh E R k kl
structure Ch (N : Nat) (p m : List Fd) (l0 l : List Rw) (σ : Int → Int) : Prop where
 rows : ∀ r, r ∈ l → LR N p m l0 r
 sym : ∀ s, LE N p m l0 s (σ s)
 img : ∀ r, r ∈ l0 → r.map σ ∈ l
 fix : ∀ r, r ∈ l → ∀ z, z ∈ r → σ z = z
 le : ∀ s, σ s ≤ s
section
variable {N : Nat} {p m : List Fd} {l0 l l' : List Rw} {σ σ' : Int → Int} {n : Int}
theorem Ch.start : Ch N p m l0 l0 id := ⟨fun r hr E R _ hl => hl r hr, fun s E R k _ => k.refl s, fun r hr => by rw [List.map_id]; exact hr, fun _ _ _ _ => rfl, fun s => Int.le_refl s⟩
theorem Ch.congr (h : Ch N p m l0 l σ) (e : ∀ r, r ∈ l' ↔ r ∈ l) : Ch N p m l0 l' σ :=
 ⟨fun r hr => h.rows r ((e r).1 hr), h.sym, fun r hr => (e _).2 (h.img r hr), fun r hr => h.fix r ((e r).1 hr), h.le⟩
def jg (hi lo z : Int) : Int := if z = hi then lo else z
theorem ahm {f : Int → Int} {r : Rw} {i : Nat} (h : i < r.length) : (r.map f).getD i default = f (r.getD i default) := by
 rw [List.getD_eq_getElem?_getD, List.getElem?_map, List.getElem?_eq_getElem h, List.getD_eq_getElem?_getD, List.getElem?_eq_getElem h]
 rfl
theorem Ch.sub (hl0 : ∀ r, r ∈ l0 → r.length = N) (h : Ch N p m l0 l σ) {hi lo : Int} (hE : LE N p m l0 hi lo) (hle : lo ≤ hi) (hin : ∃ r, r ∈ l ∧ lo ∈ r) : Ch N p m l0 (l.map fun r => r.map (jg hi lo)) (fun s => jg hi lo (σ s)) := by
 have hm := wz (p := p) (m := m) hl0
 have hs : ∀ z, LE N p m l0 z (jg hi lo z) := fun z => by
  unfold jg
  split
  · rename_i e; rw [e]; exact hE
  · exact hm.refl z
 refine ⟨fun r hr => ?_, fun s => hm.trans (h.sym s) (hs _), fun r hr => ?_, fun r hr z hz => ?_, fun s => ?_⟩
 · obtain ⟨r0, h0, rfl⟩ := List.mem_map.1 hr
   exact hm.cong (h.rows r0 h0) (by simp) fun i hi => by rw [ahm hi]; exact hs _
 · refine List.mem_map.2 ⟨_, h.img r hr, ?_⟩
   rw [List.map_map]
   rfl
 · obtain ⟨r0, h0, rfl⟩ := List.mem_map.1 hr
   obtain ⟨y, hy, rfl⟩ := List.mem_map.1 hz
   obtain ⟨r1, h1, h2⟩ := hin
   have e1 := h.fix r0 h0 y hy
   have e2 := h.fix r1 h1 lo h2
   by_cases e : y = hi
   · have e3 : jg hi lo y = lo := if_pos e
     show jg hi lo (σ (jg hi lo y)) = jg hi lo y
     rw [e3, e2]
     unfold jg
     split <;> rfl
   · have e3 : jg hi lo y = y := if_neg e
     show jg hi lo (σ (jg hi lo y)) = jg hi lo y
     rw [e3, e1, e3]
 · have h1 := h.le s
   have h2 : jg hi lo (σ s) ≤ σ s := by
    unfold jg
    split <;> omega
   exact Int.le_trans h2 h1
theorem a9z {M : Nat → Nat → Int} {a b j : Nat} : cr l (eqM M a b j) = (cr l M).map fun r => r.map (jg (hiI (M a j) (M b j)) (loI (M a j) (M b j))) := by
 unfold cr
 rw [List.map_map]
 refine List.map_congr_left fun i _ => ?_
 show _ = List.map _ (List.map _ _)
 rw [List.map_map]
 rfl
theorem abm {M : Nat → Nat → Int} {a j : Nat} (ha : a < l.length) (hj : j < (l.getD a default).length) : ∃ r, r ∈ cr l M ∧ M a j ∈ r :=
 y9.2 ⟨a, j, ha, hj, rfl⟩
theorem Ch.eqMs (hl0 : ∀ r, r ∈ l0 → r.length = N) {a b : Nat} (ha : a < l.length) (hb : b < l.length) : ∀ {js : List Nat} {M : Nat → Nat → Int} {σ : Int → Int}, Ch N p m l0 (cr l M) σ → (∀ j, j ∈ js → j < (l.getD a default).length ∧ j < (l.getD b default).length ∧ LE N p m l0 (M a j) (M b j)) →
 ∃ σ', Ch N p m l0 (cr l (eqMs M a b js)) σ'
 | [], M, σ, h, _ => ⟨σ, h⟩
 | j :: js, M, σ, h, hj => by
  obtain ⟨h1, h2, h3⟩ := hj j (by simp)
  have hm := wz (p := p) (m := m) hl0
  have hlo : loI (M a j) (M b j) ≤ hiI (M a j) (M b j) := by unfold loI hiI; split <;> split <;> omega
  have hE : LE N p m l0 (hiI (M a j) (M b j)) (loI (M a j) (M b j)) := by
   rcases aj0 (M a j) (M b j) with e | e <;> rcases a9w (M a j) (M b j) with f | f <;> rw [e, f]
   · exact hm.refl _
   · exact h3
   · exact hm.symm h3
   · exact hm.refl _
  have hin : ∃ r, r ∈ cr l M ∧ loI (M a j) (M b j) ∈ r := by
   rcases a9w (M a j) (M b j) with f | f <;> rw [f]
   · exact abm ha h1
   · exact abm hb h2
  have hq := h.sub hl0 hE hlo hin
  rw [← a9z] at hq
  have hs : ∀ z, LE N p m l0 z (if z = hiI (M a j) (M b j) then loI (M a j) (M b j) else z) := fun z => by
   split
   · rename_i e; rw [e]; exact hE
   · exact hm.refl z
  exact Ch.eqMs hl0 ha hb (js := js) hq fun k hk => by
   obtain ⟨h4, h5, h6⟩ := hj k (by simp [hk])
   exact ⟨h4, h5, hm.trans (hm.symm (hs (M a k))) (hm.trans h6 (hs (M b k)))⟩
theorem a7i : cr l (da l) = l := by
 refine lc (j8 _ _) fun i hi => ?_
 rw [j8] at hi
 rw [a2l hi]
 refine lc (by simp) fun k hk => ?_
 simp only [List.length_map, List.length_range] at hk
 rw [List.getD_eq_getElem?_getD, List.getElem?_map, List.getElem?_range hk]
 rfl
theorem aaw (hl0 : ∀ r, r ∈ l0 → r.length = N) {a b : Rw} {s : AS} (h : gw a b s = true) : AgE (LE N p m l0) a b s := fun i hi hs => by
 rw [of_decide_eq_true h i hi hs]
 exact (wz hl0).refl _
theorem dg {α : Type} [Inhabited α] {l : List α} {i : Nat} (h : i < l.length) : l.getD i default ∈ l := by
 rw [List.getD_eq_getElem?_getD, List.getElem?_eq_getElem h]
 exact List.getElem_mem h
theorem ahj {a b : Rw} {s : AS} (hl : a.length = b.length) {z : Int} (hz : z ∈ dx a b s) : z ∈ a ∨ z ∈ b := by
 unfold dx at hz
 rw [List.mem_map] at hz
 obtain ⟨i, hi, rfl⟩ := hz
 have hi := List.mem_range.1 hi
 split
 · exact .inl (dg (by omega))
 · exact .inr (dg hi)
def ar7 (l : List Rw) (p m : List Fd) (s : St) : Prop := s.2.2.1 < l.length ∧ s.2.2.2 < l.length ∧ (s.1 = false → s.2.1 < p.length) ∧ (s.1 = true → s.2.1 < m.length)
theorem Ch.app (hl0 : ∀ r, r ∈ l0 → r.length = n.toNat) (hT : tok n l = true) (hp : p.all (inU n) = true) (h : Ch n.toNat p m l0 l σ) {s : St} (hs : ar7 l p m s) (he : (ec n l p m s).2.2 = 0) :
 (ec n l p m s).1 = n ∧ ∃ σ', Ch n.toNat p m l0 (ec n l p m s).2.1 σ' := by
 obtain ⟨mu, i, a, b⟩ := s
 obtain ⟨ha, hb, hf, hv⟩ := hs
 obtain ⟨h0, h1, h2, h3⟩ := jd hT
 have ha : a < l.length := ha
 have hb : b < l.length := hb
 have hra := h3 a ha
 have hrb := h3 b hb
 cases mu with
 | false =>
  have hi : i < p.length := hf rfl
  have e0 : ec n l p m (false, i, a, b) = fdE n l a b (p.getD i default) := rfl
  rw [e0] at he ⊢
  by_cases hg : gw (l.getD a default) (l.getD b default) (p.getD i default).lhs = true
  · have e1 : fdE n l a b (p.getD i default) = (n, c4 (cr l (Go.Hx.eqMs (da l) a b (aw (p.getD i default).rhs))), 0) := if_pos hg
    rw [e1]
    refine ⟨rfl, ?_⟩
    have hu : inU n (p.getD i default) = true := List.all_eq_true.1 hp _ (dg hi)
    have hm := wz (p := p) (m := m) hl0
    have hR := hm.fd (dg hi) (h.rows _ (dg ha)) (h.rows _ (dg hb)) (aaw hl0 hg)
    obtain ⟨σ', hσ⟩ := Ch.eqMs (p := p) (m := m) hl0 ha hb (js := aw (p.getD i default).rhs) (M := da l) (σ := σ) (by rw [a7i]; exact h) fun j hj => by
     have h4 := a1r h0 h1 hu hj
     have h5 := md.1 hj
     refine ⟨Nat.lt_of_lt_of_eq h4 hra.symm, Nat.lt_of_lt_of_eq h4 hrb.symm, hR j (Nat.lt_of_lt_of_eq h4 hra.symm) (by rw [sh h5.1]; exact h5.2)⟩
    exact ⟨σ', hσ.congr fun r => dn⟩
  · have e1 : fdE n l a b (p.getD i default) = (0, [], 1) := if_neg hg
    rw [e1] at he
    exact absurd he (by decide)
 | true =>
  have hi : i < m.length := hv rfl
  have e0 : ec n l p m (true, i, a, b) = mvE n l a b (m.getD i default) := rfl
  rw [e0] at he ⊢
  by_cases hg : gw (l.getD a default) (l.getD b default) (m.getD i default).lhs = true
  · have e1 : mvE n l a b (m.getD i default) = l5 n l (dx (l.getD a default) (l.getD b default) ((m.getD i default).lhs ||| (m.getD i default).rhs)) := if_pos hg
    rw [e1] at he ⊢
    by_cases hbig : 256 < (c4 (l ++ [dx (l.getD a default) (l.getD b default) ((m.getD i default).lhs ||| (m.getD i default).rhs)])).length
    · have e2 : l5 n l (dx (l.getD a default) (l.getD b default) ((m.getD i default).lhs ||| (m.getD i default).rhs)) = (0, [], 3) := if_pos hbig
      rw [e2] at he
      exact absurd he (by decide)
    · have e2 : l5 n l (dx (l.getD a default) (l.getD b default) ((m.getD i default).lhs ||| (m.getD i default).rhs)) = (n, c4 (l ++ [dx (l.getD a default) (l.getD b default) ((m.getD i default).lhs ||| (m.getD i default).rhs)]), 0) := if_neg hbig
      rw [e2]
      refine ⟨rfl, σ, ?_⟩
      have hm := wz (p := p) (m := m) hl0
      have hR := hm.mv (dg hi) (h.rows _ (dg ha)) (h.rows _ (dg hb)) (aaw hl0 hg)
      refine ⟨fun r hr => ?_, h.sym, fun r hr => dn.2 (List.mem_append_left _ (h.img r hr)), fun r hr z hz => ?_, h.le⟩
      · rcases List.mem_append.1 (dn.1 hr) with h4 | h4
        · exact h.rows r h4
        · rw [List.mem_singleton.1 h4]; exact hR
      · rcases List.mem_append.1 (dn.1 hr) with h4 | h4
        · exact h.fix r h4 z hz
        · rw [List.mem_singleton.1 h4] at hz
          rcases ahj (by omega) hz with h5 | h5
          · exact h.fix _ (dg ha) z h5
          · exact h.fix _ (dg hb) z h5
  · have e1 : mvE n l a b (m.getD i default) = (0, [], 1) := if_neg hg
    rw [e1] at he
    exact absurd he (by decide)
theorem a8h {f : Int → Int} : ∀ {r : Rw}, (∀ z, z ∈ r → f z = z) → r.map f = r
 | [], _ => rfl
 | z :: r, h => by rw [List.map_cons, h z (by simp), a8h fun y hy => h y (by simp [hy])]
end
end Go.Hx
end
section
namespace Go.Hx
def aqj : List (List Int) → List Rw
 | [] => [[]]
 | c :: cs => c.flatMap fun z => (aqj cs).map fun r => z :: r
section
variable {N : Nat} {p m : List Fd} {l0 l : List Rw}
theorem akb {a b : Rw} {s : AS} {i : Nat} (h : i < b.length) : (dx a b s).getD i default = if dm s (i : Int) = true then a.getD i default else b.getD i default := by
 unfold dx
 rw [List.getD_eq_getElem?_getD, List.getElem?_map, List.getElem?_range h]
 rfl
theorem agq (C : Nat → List Int) (hd : ∀ i j z, z ∈ C i → z ∈ C j → i = j) : Mdl N p m (fun x y => x = y ∨ ∃ i, x ∈ C i ∧ y ∈ C i) (fun r => r.length = N ∧ ∀ i, i < N → r.getD i default ∈ C i) where
 refl _ := .inl rfl
 symm h := by
  rcases h with h | ⟨i, h, k⟩
  · exact .inl h.symm
  · exact .inr ⟨i, k, h⟩
 trans h h2 := by
  rcases h with h | ⟨i, h, k⟩
  · rw [h]; exact h2
  · rcases h2 with h2 | ⟨j, h2, k2⟩
    · rw [← h2]; exact .inr ⟨i, h, k⟩
    · have := hd i j _ k h2
      subst this
      exact .inr ⟨i, h, k2⟩
 len h := h.1
 cong h e h2 := ⟨e.trans h.1, fun i hi => by
  have h3 := h.2 i hi
  rcases h2 i (by rw [h.1]; exact hi) with h4 | ⟨j, h4, h5⟩
  · rw [← h4]; exact h3
  · have := hd i j _ h3 h4
    subst this
    exact h5⟩
 fd _ a b ha hb _ := fun i hi _ => .inr ⟨i, ha.2 i (by rw [← ha.1]; exact hi), hb.2 i (by rw [← ha.1]; exact hi)⟩
 mv _ a b ha hb _ := ⟨(se _ _ _).trans hb.1, fun i hi => by
  rw [akb (by rw [hb.1]; exact hi)]
  split
  · exact ha.2 i hi
  · exact hb.2 i hi⟩
def apw (N : Nat) (p m : List Fd) (l0 : List Rw) : Prop := ∀ l, kj l → (∀ r, r ∈ l → LR N p m l0 r) → l.length ≤ 256
end
section
variable {p m : List Fd} {l0 l : List Rw} {n : Int} {σ : Int → Int}
theorem Ch.code (h0 : tok n l0 = true) (hS : apw n.toNat p m l0) (hp : p.all (inU n) = true) (hT : tok n l = true) (h : Ch n.toNat p m l0 l σ) {s : St} (hs : a5i l p m s) : (ec n l p m s).2.2 = 0 := by
 rcases ado hT hp hs with e | ⟨l', e, _⟩
 · obtain ⟨mu, i, a, b⟩ := s
   obtain ⟨ha, hb, hs | hs⟩ := hs
   · obtain ⟨h1, h2, h3⟩ := hs
     cases h1
     have h4 : ec n l p m (false, i, a, b) = fdE n l a b (p.getD i default) := rfl
     have hg := (aif hT (List.all_eq_true.1 hp _ (dg h2)) ha hb h3).1
     have hg : fdE n l a b (p.getD i default) = (n, fdL l a b (p.getD i default), 0) := hg
     rw [h4, hg] at e ⊢
   · obtain ⟨h1, h2, h3⟩ := hs
     cases h1
     have h4 : ec n l p m (true, i, a, b) = mvE n l a b (m.getD i default) := rfl
     have h5 : f4 l (m.getD i default) a b = true := h3
     unfold f4 at h5
     rw [Bool.and_eq_true] at h5
     have h6 : mvE n l a b (m.getD i default) = l5 n l (dx (l.getD a default) (l.getD b default) ((m.getD i default).lhs ||| (m.getD i default).rhs)) := if_pos h5.1
     have hl0 : ∀ r, r ∈ l0 → r.length = n.toNat := fun r hr => (w8 h0 r hr).1
     have h7 := hS (c4 (l ++ [dx (l.getD a default) (l.getD b default) ((m.getD i default).lhs ||| (m.getD i default).rhs)])) (ss _) fun r hr => by
      rcases List.mem_append.1 (dn.1 hr) with h8 | h8
      · exact h.rows r h8
      · rw [List.mem_singleton.1 h8]
        exact (wz hl0).mv (dg h2) (h.rows _ (dg ha)) (h.rows _ (dg hb)) (aaw hl0 h5.1)
     rw [h4, h6]
     unfold l5
     rw [if_neg (by omega)]
 · rw [e]
def TrZ (n : Int) (p m : List Fd) (lend : List Rw) : List Rw → List St → Prop
 | l, [] => l = lend
 | l, s :: r => tok n l = true ∧ a5i l p m s ∧ ∃ l', ec n l p m s = (n, l', 0) ∧ ¬ l' = l ∧ TrZ n p m lend l' r
end
def stC (n : Int) (ps : List AS) (c : Nat) : List Int := if c < n.toNat then (List.range ps.length).map fun i => stV n i (ps.getD i default) c else []
section
variable {n : Int} {ps : List AS} {p m : List Fd}
theorem akr (h0 : 0 ≤ n) {i c : Nat} {q : AS} (hc : c < n.toNat) : stV n i q c % n = (c : Int) := by
 unfold stV
 split
 · exact Int.emod_eq_of_lt (by omega) (by omega)
 · have e : n + (i : Int) * n + (c : Int) = (c : Int) + n * (1 + (i : Int)) := by rw [Int.mul_add, Int.mul_one, Int.mul_comm (i : Int) n]; omega
   rw [e, Int.add_mul_emod_self_left]
   exact Int.emod_eq_of_lt (by omega) (by omega)
theorem a1v (h0 : 0 ≤ n) {c : Nat} {z : Int} (h : z ∈ stC n ps c) : c < n.toNat ∧ z % n = (c : Int) := by
 unfold stC at h
 split at h
 · rename_i hc
   obtain ⟨i, _, rfl⟩ := List.mem_map.1 h
   exact ⟨hc, akr h0 hc⟩
 · simp at h
theorem ali (h0 : 0 ≤ n) : ∀ i j z, z ∈ stC n ps i → z ∈ stC n ps j → i = j := fun i j z h k => by
 have h1 := (a1v h0 h).2
 have h2 := (a1v h0 k).2
 omega
theorem a99 {r : Rw} (hr : r ∈ df n ps) : r.length = n.toNat ∧ ∀ i, i < n.toNat → r.getD i default ∈ stC n ps i := by
 unfold df at hr
 obtain ⟨k, hk, rfl⟩ := List.mem_map.1 hr
 refine ⟨a7s _ _ _, fun i hi => ?_⟩
 rw [anb hi]
 unfold stC
 rw [if_pos hi]
 exact List.mem_map.2 ⟨k, hk, rfl⟩
end
end Go.Hx
end
section
namespace Go.Hx
section
variable {n : Int} {ps : List AS} {p m : List Fd} {l l0 : List Rw} {σ : Int → Int}
theorem aoo (h0 : 0 ≤ n) {c : Nat} {z : Int} (h : z ∈ stC n ps c) : z = (c : Int) ∨ n ≤ z := by
 unfold stC at h
 split at h
 · obtain ⟨i, _, rfl⟩ := List.mem_map.1 h
   unfold stV
   split
   · exact .inl rfl
   · right
     have := Int.mul_nonneg (show (0 : Int) ≤ (i : Int) by omega) h0
     omega
 · simp at h
theorem Ch.first (h0 : 0 ≤ n) (h : Ch n.toNat p m (c4 (df n ps)) l σ) : (fg n).map σ = fg n := by
 refine a8h fun z hz => ?_
 unfold fg at hz
 obtain ⟨c, hc, rfl⟩ := List.mem_map.1 hz
 have hc := List.mem_range.1 hc
 have h1 := h.sym (c : Int) _ _ (agq (stC n ps) (ali h0)) fun r hr => a99 (dn.1 hr)
 rcases h1 with h1 | ⟨i, h1, h2⟩
 · exact h1.symm
 · have h3 := (a1v h0 h1).2
   have h4 := Int.emod_eq_of_lt (a := (c : Int)) (b := n) (by omega) (by omega)
   have h5 : i = c := by omega
   subst h5
   have h6 := h.le (i : Int)
   rcases aoo h0 h2 with h7 | h7
   · exact h7
   · omega
def swI (n z : Int) : Int := if n ≤ z ∧ z < 2 * n then z + n else if 2 * n ≤ z ∧ z < 3 * n then z - n else z
abbrev asx (n : Int) (x : Fd) : Fd := ⟨x.lhs, ay n &&& ~~~(x.lhs ||| x.rhs)⟩
end
end Go.Hx
end
section
namespace Go.Hx
section
variable {n : Int} {p m : List Fd} {l0 l : List Rw} {σ : Int → Int}
def trL (n : Int) (p m : List Fd) : List Rw → List St → List (List Rw)
 | l, [] => [l]
 | l, s :: r => l :: trL n p m (ec n l p m s).2.1 r
end
section
variable {n : Int} {ps : List AS} {p m : List Fd}
end
end Go.Hx
end
section
namespace Go.Hx
section
variable {n : Int} {l : List Fd}
end
theorem ans {α β : Type} [Inhabited α] {f : α → β} {l : List α} {i : Nat} (h : i < l.length) : (l.take (i + 1)).map f = (l.take i).map f ++ [f (l.getD i default)] := by
 rw [bg h, List.map_append]
 rfl
structure Dps where
 n : BitVec 8
 l : List Dp
deriving Inhabited
def Dps.num (d : Dps) : Int := ((d.n.toNat % 7 : Nat) : Int)
def Dps.fds (d : Dps) : List Fd := d.l.map (Dp.fd d.num)
def Dps.c (d : Dps) : Nat → PV
 | 0 => .raw (.int .u8 (d.n.toNat : Int))
 | 1 => dpl d.l
 | _ => .any
abbrev Dps.pc (d : Dps) : PC := .agg [d.c 0, d.c 1]
end Go.Hx
end
section
namespace Go.Hx
open Go.Proofs
set_option maxRecDepth 100000
theorem acg : goodFn Tryz.prog 57 := ⟨Tryz.f57, Tryz.func57, by kernel_rfl, by kernel_rfl⟩
theorem aim (n : Int) (l : List Dp) (hl : l.length ≤ 16777216) : ai Tryz.prog 57 [pI n, pP (dpl l)] (al [pP (fdl (l.map (Dp.fd n)))]) := by
 refine aj (nt := 37) ah Tryz.func57 rfl rfl l9 ?_; refine sx7 ?_; refine qy ?_; refine a6 ?_; refine sx7 ?_; refine qy ?_; refine rc rfl rfl rfl rfl rfl rfl a40 (a6r n) (CoL.refl _) rfl rfl ?_; refine qy ?_
 refine a6 ?_; refine sx7 ?_; refine qy ?_; refine a6 ?_; refine a7 ?_; refine sx7 ?_; refine qy ?_; refine a6 ?_; refine ab ?_
 refine gf 6 900 true 2 40 (lf Fd.c []) (by decide) rfl (CoP.sl rfl (.inr rfl) (fun h => h) (fun i j hi _ => absurd hi (Nat.not_lt_zero i))) (.inr rfl) rfl ?_
 refine ao (ι := Nat) ⟨[(1, some _), (5, some _)], []⟩ ⟨⟨c9, c9, trivial⟩, trivial⟩ (fun i => ⟨[(6, some (.v (.one (.ref 900 ((l.take i).map (Dp.fd n)).length)))), (7, some (vI i))], [(900, some (.arr true 2 40 ((l.take i).map (Dp.fd n)).length (lf Fd.c ((l.take i).map (Dp.fd n)))))]⟩) (fun i => i ≤ l.length) (fun i => l.length - i) (0) (Nat.zero_le _) ⟨⟨zy, zy, trivial⟩, ⟨u9, trivial⟩⟩ ?_
 rintro i hi
 have hlen : ((l.take i).map (Dp.fd n)).length ≤ i := by rw [List.length_map, List.length_take]; omega
 refine a7 ?_; refine sx7 ?_; (iterate 4 refine qy ?_); refine a6 ?_; refine a8 _ rfl (fun r0 => ?_) (fun r0 => ?_)
 ·
  have h0 := of_decide_eq_true r0
  try simp only [ty] at h0
  refine aa ?_; refine a7 ?_; refine ab ?_; refine br (E := c6) ah bh [0, 1, 2, 3, 4, 5, 6, 7, 8, 9, 10, 11, 12, 13, 14, 15, 16, 17, 18, 19, 20] ?_; (iterate 18 refine qy ?_); refine m9 0 ?_
  refine ra 1 true rfl rfl rfl rfl rfl rfl ?_; refine qy ?_; refine a6 ?_; refine ⟨by kernel_rfl, ?_⟩; refine gy ?_; (iterate 3 refine qy ?_); refine a6 ?_; refine ⟨i + 1, ?_, ?_, ?_⟩
  · show i + 1 ≤ _; omega
  · first | omega | (dsimp only; omega)
  · exact ⟨⟨⟨_, rfl, (fv (ans (by omega)))⟩, zy, c9, c9, trivial⟩, ⟨⟨_, rfl, (yb (ans (by omega)) (CoP.of_eq (congrArg (fun z => PV.raw (.int .u32 z)) (adn _ _))) (CoP.of_eq (congrArg (fun z => PV.raw (.int .u32 z)) (adn _ _))))⟩, trivial⟩⟩
 ·
  have h0 := of_decide_eq_false r0
  try simp only [ty] at h0
  obtain rfl : i = l.length := by omega
  refine ar ?_; refine sx7 ?_; (iterate 2 refine qy ?_); refine a6 ?_; refine ce 4 rfl rfl rfl ?_
  exact hx8 rfl rfl rfl (⟨CoC.one (CoP.of_eq (by rw [List.take_length]; rfl)), trivial⟩)
theorem aoj : goodFn Tryz.prog 28 := ⟨Tryz.f28, Tryz.func28, by kernel_rfl, by kernel_rfl⟩
theorem cOf (d : Dps) (hl : d.l.length ≤ 16777216) : ai Tryz.prog 28 [d.pc] (al [pI d.num, pP (fdl d.fds), pB (decide (d.l.length ≤ 6))]) := by
 refine aj (nt := 19) ah Tryz.func28 rfl rfl l9 ?_; refine sx7 ?_; refine m9 0 ?_; (iterate 3 refine qy ?_); refine a6 ?_; refine sx7 ?_; (iterate 5 refine qy ?_); refine a6 ?_; refine a7 ?_
 refine br (E := c6) ah bh [0, 1, 2, 3, 4, 5, 6, 7, 8, 9, 10, 11] ?_; (iterate 4 refine qy ?_); refine rc rfl rfl rfl rfl rfl rfl acg (aim d.num d.l hl) (CoL.refl _) rfl rfl ?_; (iterate 7 refine qy ?_)
 refine a6 ?_; refine ⟨by kernel_rfl, ?_⟩
 exact hx8 rfl rfl rfl (⟨cci (show (d.n.toNat : Int) % 7 = d.num by unfold Dps.num; omega), CoC.refl _, ccb (decide_eq_decide.2 (by omega)), trivial⟩)
end Go.Hx
end
section
namespace Go.Hx
def noA (s : AS) (a : Nat) : AS := s &&& ~~~((1 : AS) <<< a)
def aon (n : Int) (l : List Fd) (s : AS) (a : Nat) : AS := if a1k n l (noA s a) = true then noA s a else s
def aq8 (n : Int) (l : List Fd) (s : AS) (k : Nat) : AS := (List.range k).foldl (fun s j => aon n l s (n.toNat - 1 - j)) s
def rkE (n : Int) (l : List Fd) (s : AS) : Int := if cb n l = 0 then (if a1k n l s = true then 0 else 1) else cb n l
def rkS (n : Int) (l : List Fd) (s : AS) : AS := if rkE n l s = 0 then aq8 n l s n.toNat else 0
def ape (n : Int) (l : List Fd) (s : AS) : Bool := a1k n l s && (List.range n.toNat).all fun a => !(s.getLsbD a && a1k n l (noA s a))
def aq3 (n : Int) (l : List Fd) (i : Nat) : List AS := ((List.range i).map (BitVec.ofNat 32)).filter (ape n l)
def aie (n : Int) (l : List Fd) : List AS := if cb n l = 0 then ord (aq3 n l (2 ^ n.toNat)) else []
end Go.Hx
end
section
namespace Go.Hx
def bC : Bool → Nat → PV := fun b _ => .raw (.bool b)
def ai6 (n : Int) (l : List Fd) (k : Nat) : Bool := decide (clo l (BitVec.ofNat 32 k) = ay n)
def ar0 (n : Int) (l : List Fd) (i : Nat) : List Bool := (List.range (2 ^ n.toNat)).map fun k => decide (k < i) && ai6 n l k
def ath (n : Int) (l : List Fd) : List Bool := ar0 n l (2 ^ n.toNat)
end Go.Hx
end
section
namespace Go.Hx
section
variable {n : Int} {l : List Fd}
def okA (n : Int) (l : List Fd) (i a : Nat) : Bool := ai6 n l i && (List.range a).all fun b => !(i.testBit b && ai6 n l (i ^^^ 2 ^ b))
section
variable {i a : Nat} (hv : cb n l = 0) (hi : i < 2 ^ n.toNat) (ha : (a : Int) < n) (hx : i ^^^ 2 ^ a < 2 ^ n.toNat)
include hv hi ha hx
end
end
end Go.Hx
end
section
namespace Go.Hx
def a9o (s : AS) : Nat → AS → List AS
 | 0, _ => []
 | n + 1, x => if x = 0 then [] else x :: a9o s n ((x - 1) &&& s)
def a3j (s : AS) : List AS := 0 :: a9o s (s.toNat + 1) s
theorem sub_zero (s : AS) : sub 0 s := c5.2 fun i hi h => by simp at h
def TsI (s : AS) (x : Nat × List AS × AS) : Prop := x.2.1 ++ a9o s x.1 x.2.2 = a3j s ∧ x.2.2.toNat < x.1 ∧ x.2.1.length + x.1 = s.toNat + 2
def a5z (l : List Fd) (p s : AS) : Bool := decide (sub p (clo l s))
def arb (l : List Fd) (p x : AS) : Bool := (List.range 32).all fun a => !(x.getLsbD a && a5z l p (noA x a))
def at4 (l : List Fd) (p x r : AS) : Prop := sub r x ∧ ∀ a, a < 32 → x.getLsbD a = true → r.getLsbD a = true ∨ a5z l p (noA x a) = false
def af6 (l : List Fd) (p x : AS) : Bool := a5z l p x && arb l p x
def aed (l : List Fd) (p : AS) : AS := orL ((a3j p).filter (af6 l p))
theorem a8y {k : Nat} : ∀ {ps : List AS} {s : AS}, (ps.foldl (· ||| ·) s).getLsbD k = (s.getLsbD k || ps.any fun x => x.getLsbD k)
 | [], s => by simp
 | x :: ps, s => by
  rw [List.foldl_cons, a8y, BitVec.getLsbD_or, List.any_cons, Bool.or_assoc]
def as1 (l : List Fd) (p : AS) (i : Nat) : AS := orL (((a3j p).take i).filter (af6 l p))
end Go.Hx
end
section
namespace Go.Hx
def at2 (l : List Fd) (p x : AS) (a : Nat) : Bool := (List.range a).all fun b => !(x.getLsbD b && a5z l p (noA x b))
def art (i : Nat) : List AS := (List.range i).map (BitVec.ofNat 32)
def prQ (l : List Fd) (p x : AS) : Bool := decide (sub x p) && af6 l p x
def ary (l : List Fd) (p : AS) (i : Nat) : AS := orL ((art i).filter (prQ l p))
section
variable {l : List Fd} {p : AS} {i : Nat}
end
def ar9 (l : List Fd) (p x : AS) : Bool := !a5z l p x && decide (((clo l x &&& p) &&& ~~~x) &&& ~~~aed l p ≠ 0)
def amt (l : List Fd) (p : AS) : Bool := !(a3j p).any (ar9 l p)
def arn (n : Int) (l : List Fd) (p : AS) : Int := if cb n l = 0 then (if sub p (ay n) then 0 else 1) else cb n l
def asq (n : Int) (l : List Fd) (p : AS) : Bool := decide (arn n l p = 0) && amt l p
end Go.Hx
end
section
namespace Go.Hx
section
variable {n : Int} {l : List Fd}
def amd (n : Int) (l : List Fd) (f : Fd) : Bool := decide (clo l f.lhs ≠ ay n) && decide (f.rhs &&& ~~~aed l (ay n) ≠ 0)
def ase (n : Int) (l : List Fd) (i : Nat) : List Fd := ((aax n l).take i).filter (amd n l)
def as9 (n : Int) (l : List Fd) : List Fd := (aax n l).filter (amd n l)
end
end Go.Hx
end
section
namespace Go.Hx
def ari (l : List Fd) (pr k : AS) : Bool := (List.range 32).all fun a => !k.getLsbD a || decide (sub (clo l (noA k a)) pr)
def ar1 (n : Int) (l : List Fd) : Bool := (aie n l).all (ari l (orL (aie n l)))
def ass (n : Int) (l : List Fd) : Bool := decide (cb n l = 0) && ar1 n l
section
variable {l : List Fd} {pr k : AS}
def atc (l : List Fd) (pr k r : AS) : Prop := sub r k ∧ ∀ a, a < 32 → k.getLsbD a = true → r.getLsbD a = true ∨ sub (clo l (noA k a)) pr
def asu (l : List Fd) (pr k : AS) (s : Nat) : Prop := ∀ j, j < s → sub (BitVec.ofNat 32 j) k → sub (clo l (BitVec.ofNat 32 j)) pr
end
section
variable {n : Int} {l : List Fd}
end
end Go.Hx
end
section
namespace Go.Hx
def mgR (l : List Fd) (s : AS) : AS := (l.filter fun f => decide (f.lhs = s)).foldl (fun a f => a ||| f.rhs) 0
def mgF (l : List Fd) (s : AS) : Fd := ⟨s, mgR l s⟩
def aqt (l : List Fd) : List Fd := (ord (l.map Fd.lhs)).map (mgF l)
end Go.Hx
end
section
namespace Go.Hx
open Go.Proofs
def asj (t : AS) (l : List Fd) : Prop := ∀ x ∈ l, sub x.rhs t
def aah (n : Int) (l : List Fd) : List Fd := aqt (aax n l)
def pt (f : Fd) : AS := f.lhs ||| f.rhs
section
variable {n : Int} {l : List Fd}
def aj6 (n : Int) (l : List Fd) (i : Nat) : Bool := ((aah n l).take i).any fun f => a1k n l (pt f)
def aaa (n : Int) (l : List Fd) : List AS := (aah n l).map pt
def ar3 (n : Int) (l : List Fd) : List AS := z8 (if aj6 n l (aah n l).length = true then aaa n l else aaa n l ++ [rkS n l (ay n)])
def asp (n : Int) (l : List Fd) : List AS := if cb n l = 0 then ar3 n l else []
def asw (n : Int) (l : List Fd) : List AS := if aj6 n l (aah n l).length = true then aaa n l else aaa n l ++ [rkS n l (ay n)]
end
end Go.Hx
end
section
namespace Go.Hx
def Eqv (l k : List Fd) : Prop := ∀ s, la l s ↔ la k s
theorem Eqv.refl (l : List Fd) : Eqv l l := fun s => Iff.rfl
theorem Eqv.trans {a b c : List Fd} (h : Eqv a b) (k : Eqv b c) : Eqv a c := fun s => (h s).trans (k s)
theorem Eqv.clo {l k : List Fd} (h : Eqv l k) (s : AS) : clo l s = clo k s :=
 it (a2m ((h _).2 ua) ads) (a2m ((h _).1 ua) ads)
end Go.Hx
end
