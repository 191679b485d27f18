/- A part of the proof: lemmas for the theorem of this claim, merged by a program of ours out of Ch11, Ch12, Ch13, X15, Ch14, Ch19, Ch20, Ch21, Cc1. -/
import Derived.Test.YtidophngianjiaaGreatDoorP19
import Derived.Test.YtidophngianjiaaGreatDoorP27
import Derived.Test.YtidophngianjiaaGreatDoorP34
set_option linter.all false
section
namespace Go.Hx
def Wel (n : Int) (l : List Rw) : Prop := ∀ r, r ∈ l → r.length = n.toNat ∧ ∀ z, z ∈ r → 0 ≤ z
theorem getZ_in {l : List Rw} {i : Nat} (h : i < l.length) : l.getD i default ∈ l := by
 rw [List.getD_eq_getElem?_getD, List.getElem?_eq_getElem h]
 exact List.getElem_mem h
theorem tok_wel {n : Int} {l : List Rw} (h : tok n l = true) : Wel n l := by
 obtain ⟨h0, h1, h2, h3⟩ := tok_get h
 unfold tok at h
 rw [Bool.and_eq_true, decide_eq_true_iff, decide_eq_true_iff] at h
 rintro r hr
 obtain ⟨i, hi, rfl⟩ := List.getElem_of_mem hr
 have e : l.getD i default = l[i] := by rw [List.getD_eq_getElem?_getD, List.getElem?_eq_getElem hi]; rfl
 rw [← e]
 refine ⟨h3 i hi, fun z hz => ?_⟩
 have := h.2 i hi
 unfold tokR at this
 rw [Bool.and_eq_true, Bool.and_eq_true] at this
 have h4 := this.1.2
 rw [Bool.not_eq_true', List.any_eq_false] at h4
 have := h4 z hz
 rw [decide_eq_true_iff] at this
 omega
theorem tok_ord {n : Int} {l : List Rw} (h : tok n l = true) : OrdZ l := by
 unfold tok at h
 rw [Bool.and_eq_true, decide_eq_true_iff, decide_eq_true_iff] at h
 have hs : ∀ d i : Nat, i + d + 1 < l.length → ltZ (l.getD i default) (l.getD (i + d + 1) default) = true := by
  intro d
  induction d with
  | zero =>
   intro i hi
   have := h.2 (i + 1) hi
   unfold tokR at this
   rw [Bool.and_eq_true, Bool.or_eq_true, decide_eq_true_iff] at this
   rcases this.2 with h5 | h5
   · omega
   · exact h5
  | succ d ih =>
   intro i hi
   have h1 := ih i (by omega)
   have := h.2 (i + d + 1 + 1) (by omega)
   unfold tokR at this
   rw [Bool.and_eq_true, Bool.or_eq_true, decide_eq_true_iff] at this
   rcases this.2 with h5 | h5
   · omega
   · exact ltZ_trans h1 h5
 unfold OrdZ
 rw [List.pairwise_iff_getElem]
 intro i j hi hj hij
 obtain ⟨d, rfl⟩ : ∃ d, j = i + d + 1 := ⟨j - i - 1, by omega⟩
 have := hs d i hj
 rwa [List.getD_eq_getElem?_getD, List.getElem?_eq_getElem hi, List.getD_eq_getElem?_getD, List.getElem?_eq_getElem hj] at this
theorem tok_of {n : Int} {l : List Rw} (h0 : 0 ≤ n) (h1 : n ≤ 16) (h2 : l.length ≤ 256) (hw : Wel n l) (ho : OrdZ l) : tok n l = true := by
 refine tok_t h0 h1 h2 fun i hi => ?_
 obtain ⟨h3, h4⟩ := hw _ (getZ_in hi)
 refine tokR_t (by omega) ?_ ?_
 · rw [List.any_eq_false]
   intro z hz
   have := h4 z hz
   rw [decide_eq_true_iff]
   omega
 · rcases Nat.eq_zero_or_pos i with h | h
   · exact .inl h
   · right
     have := List.pairwise_iff_getElem.1 ho (i - 1) i (by omega) hi (by omega)
     rw [List.getD_eq_getElem?_getD, List.getElem?_eq_getElem (by omega), List.getD_eq_getElem?_getD, List.getElem?_eq_getElem hi]
     exact this
theorem tok_canon {n : Int} {l : List Rw} (h0 : 0 ≤ n) (h1 : n ≤ 16) (h2 : (canon l).length ≤ 256) (hw : Wel n l) : tok n (canon l) = true :=
 tok_of h0 h1 h2 (fun r hr => hw r (mem_canon.1 hr)) (ordZ_canon l)
def inV (l : List Rw) (M : Nat → Nat → Int) (z : Int) : Prop := ∃ i r, i < l.length ∧ r < (l.getD i default).length ∧ M i r = z
theorem inV_mat {l : List Rw} {z : Int} : inV l (matOf l) z ↔ ∃ r, r ∈ l ∧ z ∈ r := by
 constructor
 · rintro ⟨i, r, hi, hr, rfl⟩
   refine ⟨_, getZ_in hi, ?_⟩
   show (l.getD i default).getD r default ∈ _
   rw [List.getD_eq_getElem?_getD (l := l.getD i default), List.getElem?_eq_getElem hr]
   exact List.getElem_mem hr
 · rintro ⟨r, hr, hz⟩
   obtain ⟨i, hi, rfl⟩ := List.getElem_of_mem hr
   obtain ⟨k, hk, rfl⟩ := List.getElem_of_mem hz
   have e : l.getD i default = l[i] := by rw [List.getD_eq_getElem?_getD, List.getElem?_eq_getElem hi]; rfl
   refine ⟨i, k, hi, by rw [e]; exact hk, ?_⟩
   show (l.getD i default).getD k default = _
   rw [e, List.getD_eq_getElem?_getD, List.getElem?_eq_getElem hk]
   rfl
theorem inV_rows {l : List Rw} {M : Nat → Nat → Int} {z : Int} : (∃ r, r ∈ rowsOf l M ∧ z ∈ r) ↔ inV l M z := by
 constructor
 · rintro ⟨r, hr, hz⟩
   unfold rowsOf at hr
   rw [List.mem_map] at hr
   obtain ⟨i, hi, rfl⟩ := hr
   rw [List.mem_map] at hz
   obtain ⟨k, hk, rfl⟩ := hz
   exact ⟨i, k, List.mem_range.1 hi, List.mem_range.1 hk, rfl⟩
 · rintro ⟨i, k, hi, hk, rfl⟩
   refine ⟨(List.range (l.getD i default).length).map (M i), ?_, List.mem_map.2 ⟨k, List.mem_range.2 hk, rfl⟩⟩
   unfold rowsOf
   exact List.mem_map.2 ⟨i, List.mem_range.2 hi, rfl⟩
section
variable {l : List Rw} {a b : Nat} (ha : a < l.length) (hb : b < l.length)
theorem lo_or (x y : Int) : loI x y = x ∨ loI x y = y := by unfold loI; split <;> simp
theorem hi_or (x y : Int) : hiI x y = x ∨ hiI x y = y := by unfold hiI; split <;> simp
include ha hb in
theorem eqM_V {M : Nat → Nat → Int} {j : Nat} (hja : j < (l.getD a default).length) (hjb : j < (l.getD b default).length) {z : Int} (h : inV l (eqM M a b j) z) : inV l M z := by
 obtain ⟨i, r, hi, hr, he⟩ := h
 unfold eqM at he
 split at he
 · rcases lo_or (M a j) (M b j) with h | h
   · exact ⟨a, j, ha, hja, by rw [← he, h]⟩
   · exact ⟨b, j, hb, hjb, by rw [← he, h]⟩
 · exact ⟨i, r, hi, hr, he⟩
include ha hb in
theorem eqMs_V : ∀ {js : List Nat} {M : Nat → Nat → Int}, (∀ j, j ∈ js → j < (l.getD a default).length ∧ j < (l.getD b default).length) → ∀ {z : Int}, inV l (eqMs M a b js) z → inV l M z
 | [], _, _, _, h => h
 | j :: js, M, hj, z, h => eqM_V ha hb (hj j (by simp)).1 (hj j (by simp)).2 (eqMs_V (js := js) (M := eqM M a b j) (fun k hk => hj k (by simp [hk])) h)
include ha hb in
theorem eqMs_lose : ∀ {js : List Nat} {M : Nat → Nat → Int}, (∀ j, j ∈ js → j < (l.getD a default).length ∧ j < (l.getD b default).length) → (∃ j, j ∈ js ∧ ¬ M a j = M b j) → ∃ z, inV l M z ∧ ¬ inV l (eqMs M a b js) z
 | [], _, _, ⟨_, h, _⟩ => by simp at h
 | j :: js, M, hj, ⟨k, hk, hne⟩ => by
  by_cases e : M a j = M b j
  · have e2 : eqMs M a b (j :: js) = eqMs M a b js := by
     show eqMs (eqM M a b j) a b js = _
     rw [eqM_same e]
    rw [e2]
    refine eqMs_lose (fun k hk => hj k (by simp [hk])) ⟨k, ?_, hne⟩
    rcases List.mem_cons.1 hk with h | h
    · subst h; exact absurd e hne
    · exact h
  · refine ⟨hiI (M a j) (M b j), ?_, fun h => ?_⟩
    · rcases hi_or (M a j) (M b j) with h | h
      · exact ⟨a, j, ha, (hj j (by simp)).1, h.symm⟩
      · exact ⟨b, j, hb, (hj j (by simp)).2, h.symm⟩
    · obtain ⟨i, r, hi, hr, he⟩ := eqMs_V ha hb (fun k hk => hj k (by simp [hk])) (show inV l (eqMs (eqM M a b j) a b js) _ from h)
      unfold eqM at he
      split at he
      · unfold hiI loI at he
        split at he <;> split at he <;> omega
      · rename_i h2
        exact h2 he
end
def symC (Z : List Int) (l : List Rw) : Nat := Z.countP fun z => l.any fun r => decide (z ∈ r)
def muC (Z : List Int) (l : List Rw) : Nat := symC Z l * 300 + (300 - l.length)
def Cov (Z : List Int) (l : List Rw) : Prop := ∀ r, r ∈ l → ∀ z, z ∈ r → z ∈ Z
theorem any_sym {l : List Rw} {z : Int} : (l.any fun r => decide (z ∈ r)) = true ↔ ∃ r, r ∈ l ∧ z ∈ r := by
 rw [List.any_eq_true]
 exact ⟨fun ⟨r, h, h2⟩ => ⟨r, h, of_decide_eq_true h2⟩, fun ⟨r, h, h2⟩ => ⟨r, h, decide_eq_true h2⟩⟩
theorem countP_lt' {p q : Int → Bool} : ∀ {Z : List Int}, (∀ z, p z = true → q z = true) → (∃ z, z ∈ Z ∧ q z = true ∧ p z = false) → Z.countP p < Z.countP q
 | [], _, ⟨_, h, _⟩ => by simp at h
 | x :: Z, h, ⟨z, hz, hq, hp⟩ => by
  have hm : Z.countP p ≤ Z.countP q := List.countP_mono_left fun z _ => h z
  rw [List.countP_cons, List.countP_cons]
  rcases List.mem_cons.1 hz with rfl | hz
  · rw [hq, hp]
    simp only [if_true, Bool.false_eq_true, if_false]
    omega
  · have := countP_lt' (Z := Z) h ⟨z, hz, hq, hp⟩
    by_cases e : p x = true
    · rw [e, h x e]; omega
    · rw [if_neg e]; omega
theorem symC_lt {Z : List Int} {l l' : List Rw} (h : ∀ z, (∃ r, r ∈ l' ∧ z ∈ r) → ∃ r, r ∈ l ∧ z ∈ r) (h2 : ∃ z, z ∈ Z ∧ (∃ r, r ∈ l ∧ z ∈ r) ∧ ¬ ∃ r, r ∈ l' ∧ z ∈ r) : symC Z l' < symC Z l := by
 refine countP_lt' (fun z hz => any_sym.2 (h z (any_sym.1 hz))) ?_
 obtain ⟨z, h3, h4, h5⟩ := h2
 exact ⟨z, h3, any_sym.2 h4, by rw [Bool.eq_false_iff]; exact fun e => h5 (any_sym.1 e)⟩
theorem symC_le {Z : List Int} {l l' : List Rw} (h : ∀ z, (∃ r, r ∈ l' ∧ z ∈ r) → ∃ r, r ∈ l ∧ z ∈ r) : symC Z l' ≤ symC Z l :=
 List.countP_mono_left fun z _ hz => any_sym.2 (h z (any_sym.1 hz))
end Go.Hx
end
section
namespace Go.Hx
theorem insZ_new {r : Rw} : ∀ {l : List Rw}, r ∉ l → (insZ r l).length = l.length + 1
 | [], _ => rfl
 | y :: l, h => by
  unfold insZ
  have h1 : ¬ r = y := fun e => h (by rw [e]; simp)
  have h2 := insZ_new (l := l) (r := r) fun e => h (by simp [e])
  rw [if_neg h1]
  split
  · simp
  · simp only [List.length_cons]; omega
theorem canon_app {l : List Rw} {r : Rw} (ho : OrdZ l) : canon (l ++ [r]) = insZ r l := by
 have e : l = canon l := canon_eq ho fun _ => Iff.rfl
 have : canon (l ++ [r]) = insZ r (canon l) := by
  unfold canon
  rw [List.foldl_append]
  rfl
 rw [this, ← e]
section
variable {n : Int} {l : List Rw} {a b : Nat} {x : Fd}
abbrev fdL (l : List Rw) (a b : Nat) (x : Fd) : List Rw := canon (rowsOf l (eqMs (matOf l) a b (membs x.rhs)))
theorem fd_ok (hT : tok n l = true) (hu : inU n x = true) (ha : a < l.length) (hb : b < l.length) (hs : stepF l x a b = true) :
 fdE n l a b x = (n, fdL l a b x, 0) ∧ tok n (fdL l a b x) = true ∧ (∀ z, (∃ r, r ∈ fdL l a b x ∧ z ∈ r) → ∃ r, r ∈ l ∧ z ∈ r) ∧ ∀ Z, Cov Z l → muC Z (fdL l a b x) < muC Z l := by
 obtain ⟨h0, h1, h2, h3⟩ := tok_get hT
 have hw := tok_wel hT
 unfold stepF at hs
 rw [Bool.and_eq_true, Bool.not_eq_true'] at hs
 obtain ⟨hl, hr⟩ := hs
 have hj : ∀ j, j ∈ membs x.rhs → j < (l.getD a default).length ∧ j < (l.getD b default).length := fun j hj => by
  have := memb_in h0 h1 hu hj
  exact ⟨by rw [h3 a ha]; exact this, by rw [h3 b hb]; exact this⟩
 have hV : ∀ z, (∃ r, r ∈ fdL l a b x ∧ z ∈ r) → ∃ r, r ∈ l ∧ z ∈ r := fun z ⟨r, hr, hz⟩ => inV_mat.1 (eqMs_V ha hb hj (inV_rows.1 ⟨r, mem_canon.1 hr, hz⟩))
 have hlen : (fdL l a b x).length ≤ l.length := Nat.le_trans (canon_len _) (Nat.le_of_eq (rowsOf_len _ _))
 refine ⟨if_pos hl, tok_canon h0 h1 (Nat.le_trans hlen h2) (fun r hr => ⟨?_, fun z hz => ?_⟩), hV, fun Z hZ => ?_⟩
 · unfold rowsOf at hr
   rw [List.mem_map] at hr
   obtain ⟨i, hi, rfl⟩ := hr
   rw [List.length_map, List.length_range]
   exact h3 i (List.mem_range.1 hi)
 · obtain ⟨r2, h5, h6⟩ := hV z ⟨r, mem_canon.2 hr, hz⟩
   exact (hw r2 h5).2 z h6
 · have hne : ∃ j, j ∈ membs x.rhs ∧ ¬ matOf l a j = matOf l b j := by
    apply Classical.byContradiction
    intro hno
    rw [agrZ_t] at hr
    · cases hr
    · intro i hi hh
      apply Classical.byContradiction
      intro e
      have hi2 : i < 32 := by
       have := h3 a ha
       omega
      rw [hasI_nat hi2] at hh
      exact hno ⟨i, mem_membs.2 ⟨hi2, hh⟩, e⟩
   obtain ⟨z, hz1, hz2⟩ := eqMs_lose ha hb hj hne
   have hz3 := inV_mat.1 hz1
   have := symC_lt (Z := Z) hV ⟨z, by obtain ⟨r, h7, h8⟩ := hz3; exact hZ r h7 z h8, hz3, fun ⟨r, h7, h8⟩ => hz2 (inV_rows.1 ⟨r, mem_canon.1 h7, h8⟩)⟩
   unfold muC
   omega
abbrev mvL (l : List Rw) (a b : Nat) (x : Fd) : List Rw := canon (l ++ [mixZ (l.getD a default) (l.getD b default) (x.lhs ||| x.rhs)])
theorem mv_ok (hT : tok n l = true) (ha : a < l.length) (hb : b < l.length) (hs : stepM l x a b = true) :
 mvE n l a b x = (0, [], 3) ∨ (mvE n l a b x = (n, mvL l a b x, 0) ∧ tok n (mvL l a b x) = true ∧ (∀ z, (∃ r, r ∈ mvL l a b x ∧ z ∈ r) → ∃ r, r ∈ l ∧ z ∈ r) ∧ ∀ Z, Cov Z l → muC Z (mvL l a b x) < muC Z l) := by
 obtain ⟨h0, h1, h2, h3⟩ := tok_get hT
 have hw := tok_wel hT
 unfold stepM at hs
 rw [Bool.and_eq_true, Bool.not_eq_true'] at hs
 obtain ⟨hl, hr⟩ := hs
 have hno := any_out hr
 have hE : mvE n l a b x = addE n l (mixZ (l.getD a default) (l.getD b default) (x.lhs ||| x.rhs)) := if_pos hl
 by_cases hbig : 256 < (mvL l a b x).length
 · left
   rw [hE]
   exact if_pos hbig
 · right
   have hmem : ∀ z, z ∈ mixZ (l.getD a default) (l.getD b default) (x.lhs ||| x.rhs) → z ∈ l.getD a default ∨ z ∈ l.getD b default := fun z hz => by
    unfold mixZ at hz
    rw [List.mem_map] at hz
    obtain ⟨i, hi, rfl⟩ := hz
    have hi := List.mem_range.1 hi
    have hi2 : i < (l.getD a default).length := by rw [h3 a ha, ← h3 b hb]; exact hi
    split
    · left
      rw [List.getD_eq_getElem?_getD (l := l.getD a default), List.getElem?_eq_getElem hi2]
      exact List.getElem_mem hi2
    · right
      rw [List.getD_eq_getElem?_getD (l := l.getD b default), List.getElem?_eq_getElem hi]
      exact List.getElem_mem hi
   have hV : ∀ z, (∃ r, r ∈ mvL l a b x ∧ z ∈ r) → ∃ r, r ∈ l ∧ z ∈ r := fun z ⟨r, hr, hz⟩ => by
    rcases List.mem_append.1 (mem_canon.1 hr) with h | h
    · exact ⟨r, h, hz⟩
    · rw [List.mem_singleton] at h
      subst h
      rcases hmem z hz with h | h
      · exact ⟨_, getZ_in ha, h⟩
      · exact ⟨_, getZ_in hb, h⟩
   refine ⟨by rw [hE]; exact if_neg hbig, tok_canon h0 h1 (Nat.le_of_not_lt fun e => hbig e) (fun r hr => ⟨?_, fun z hz => ?_⟩), hV, fun Z hZ => ?_⟩
   · rcases List.mem_append.1 hr with h | h
     · exact (hw r h).1
     · rw [List.mem_singleton] at h
       subst h
       rw [mixZ_len]
       exact h3 b hb
   · obtain ⟨r2, h5, h6⟩ := hV z ⟨r, mem_canon.2 hr, hz⟩
     exact (hw r2 h5).2 z h6
   · have e : (mvL l a b x).length = l.length + 1 := by
      show (canon _).length = _
      rw [canon_app (tok_ord hT), insZ_new hno]
     have := symC_le (Z := Z) hV
     unfold muC
     omega
end
theorem fs_get {α : Type} {f : Nat → Option α} : ∀ {n : Nat} {x : α}, (List.range n).findSome? f = some x → ∃ k, k < n ∧ f k = some x := fun {n x} h => by
 obtain ⟨k, hk, e⟩ := List.exists_of_findSome?_eq_some h
 exact ⟨k, List.mem_range.1 hk, e⟩
theorem firstF_get {P : Nat → Nat → Nat → Bool} {I L i a b : Nat} (h : firstF P I L = some (i, a, b)) : i < I ∧ a < L ∧ b < L ∧ P i a b = true := by
 obtain ⟨i', hi, h⟩ := fs_get h
 obtain ⟨a', ha, h⟩ := fs_get h
 rw [Option.map_eq_some_iff] at h
 obtain ⟨b', hb, e⟩ := h
 simp only [Prod.mk.injEq] at e
 obtain ⟨rfl, rfl, rfl⟩ := e
 exact ⟨hi, ha, List.mem_range.1 (List.mem_of_find?_eq_some hb), by simpa using List.find?_some hb⟩
def okSt (l : List Rw) (p m : List Fd) (s : St) : Prop := s.2.2.1 < l.length ∧ s.2.2.2 < l.length ∧ ((s.1 = false ∧ s.2.1 < p.length ∧ stepF l (p.getD s.2.1 default) s.2.2.1 s.2.2.2 = true) ∨ (s.1 = true ∧ s.2.1 < m.length ∧ stepM l (m.getD s.2.1 default) s.2.2.1 s.2.2.2 = true))
theorem next_ok {l : List Rw} {p m : List Fd} {s : St} (h : nextE l p m = some s) : okSt l p m s := by
 unfold nextE at h
 split at h
 · rename_i x e
   simp only [Option.some.injEq] at h
   subst h
   obtain ⟨i, a, b⟩ := x
   obtain ⟨h1, h2, h3, h4⟩ := firstF_get e
   exact ⟨h2, h3, .inl ⟨rfl, h1, h4⟩⟩
 · rw [Option.map_eq_some_iff] at h
   obtain ⟨⟨i, a, b⟩, e, rfl⟩ := h
   obtain ⟨h1, h2, h3, h4⟩ := firstF_get e
   exact ⟨h2, h3, .inr ⟨rfl, h1, h4⟩⟩
def appE (n : Int) (l : List Rw) (p m : List Fd) (s : St) : Int × List Rw × Int := if s.1 = true then mvE n l s.2.2.1 s.2.2.2 (m.getD s.2.1 default) else fdE n l s.2.2.1 s.2.2.2 (p.getD s.2.1 default)
theorem app_ok {n : Int} {l : List Rw} {p m : List Fd} {s : St} (hT : tok n l = true) (hp : p.all (inU n) = true) (h : okSt l p m s) :
 appE n l p m s = (0, [], 3) ∨ ∃ l', appE n l p m s = (n, l', 0) ∧ tok n l' = true ∧ (∀ Z, Cov Z l → Cov Z l' ∧ muC Z l' < muC Z l) := by
 obtain ⟨ha, hb, h | h⟩ := h
 · obtain ⟨h1, h2, h3⟩ := h
   have hu : inU n (p.getD s.2.1 default) = true := List.all_eq_true.1 hp _ (by rw [List.getD_eq_getElem?_getD, List.getElem?_eq_getElem h2]; exact List.getElem_mem h2)
   obtain ⟨e, h4, h5, h6⟩ := fd_ok hT hu ha hb h3
   exact .inr ⟨_, by unfold appE; rw [if_neg (by rw [h1]; decide)]; exact e, h4, fun Z hZ => ⟨fun r hr z hz => by obtain ⟨r2, h7, h8⟩ := h5 z ⟨r, hr, hz⟩; exact hZ r2 h7 z h8, h6 Z hZ⟩⟩
 · obtain ⟨h1, h2, h3⟩ := h
   rcases mv_ok hT ha hb h3 with e | ⟨e, h4, h5, h6⟩
   · exact .inl (by unfold appE; rw [if_pos h1]; exact e)
   · exact .inr ⟨_, by unfold appE; rw [if_pos h1]; exact e, h4, fun Z hZ => ⟨fun r hr z hz => by obtain ⟨r2, h7, h8⟩ := h5 z ⟨r, hr, hz⟩; exact hZ r2 h7 z h8, h6 Z hZ⟩⟩
def stepsE : Nat → Int → List Rw → List Fd → List Fd → List St → List St × (Int × List Rw) × Int
 | 0, _, _, _, _, _ => ([], (0, []), 0)
 | f + 1, n, l, p, m, acc =>
  match nextE l p m with
  | none => (acc, (n, l), 0)
  | some s => match appE n l p m s with
   | (n', l', e) => if e = 0 then stepsE f n' l' p m (acc ++ [s]) else ([], (0, []), e)
theorem stepsE_end {f : Nat} {n : Int} {l : List Rw} {p m : List Fd} {acc : List St} (hf : 0 < f) (h : nextE l p m = none) : stepsE f n l p m acc = (acc, (n, l), 0) := by
 obtain ⟨g, rfl⟩ : ∃ g, f = g + 1 := ⟨f - 1, by omega⟩
 unfold stepsE
 rw [h]
theorem stepsE_err {f : Nat} {n : Int} {l : List Rw} {p m : List Fd} {acc : List St} {s : St} (hf : 0 < f) (h : nextE l p m = some s) {n' e : Int} {l' : List Rw} (h2 : appE n l p m s = (n', l', e)) (he : ¬ e = 0) : stepsE f n l p m acc = ([], (0, []), e) := by
 obtain ⟨g, rfl⟩ : ∃ g, f = g + 1 := ⟨f - 1, by omega⟩
 unfold stepsE
 rw [h]
 simp only
 rw [h2]
 simp only
 rw [if_neg he]
theorem stepsE_next {f : Nat} {n : Int} {l : List Rw} {p m : List Fd} {acc : List St} {s : St} (hf : 0 < f) (h : nextE l p m = some s) {n' : Int} {l' : List Rw} (h2 : appE n l p m s = (n', l', 0)) : stepsE f n l p m acc = stepsE (f - 1) n' l' p m (acc ++ [s]) := by
 obtain ⟨g, rfl⟩ : ∃ g, f = g + 1 := ⟨f - 1, by omega⟩
 rw [Nat.add_sub_cancel]
 conv => lhs; unfold stepsE
 rw [h]
 simp only
 rw [h2]
 simp only
 rw [if_pos trivial]
end Go.Hx
end
section
namespace Go.Hx
open Go.Proofs
theorem cApply (n : Int) (l : List Rw) (p m : List Fd) (s : St) (hT : tok n l = true) (hp : p.all (inU n) = true) (h : okSt l p m s) :
 HPure Tryz.prog 183 [pT n l, pP (fdl p), pP (fdl m), s.pc] (prOf [pT (appE n l p m s).1 (appE n l p m s).2.1, pI (appE n l p m s).2.2]) := by
 obtain ⟨mu, i, a, b⟩ := s
 obtain ⟨ha, hb, h | h⟩ := h
 · obtain ⟨h1, h2, h3⟩ := h
   cases h1
   exact cApplyF n l p m i a b hT ha hb h2 (List.all_eq_true.1 hp _ (by rw [List.getD_eq_getElem?_getD, List.getElem?_eq_getElem h2]; exact List.getElem_mem h2))
 · obtain ⟨h1, h2, h3⟩ := h
   cases h1
   exact cApplyM n l p m i a b hT ha hb h2
abbrev St.c (s : St) : Nat → PV := fun j => [.raw (.bool s.1), .raw (.int .i64 (s.2.1 : Int)), .raw (.int .i64 (s.2.2.1 : Int)), .raw (.int .i64 (s.2.2.2 : Int))].getD j .any
abbrev stl (l : List St) : PV := psl 4 St.c l
abbrev ckE (n : Int) (l : List Rw) (p m : List Fd) : Int := if tok n l = true then bErr n p m else 1
theorem ckE_ok {n : Int} {l : List Rw} {p m : List Fd} (h : ckE n l p m = 0) : tok n l = true ∧ bErr n p m = 0 ∧ p.all (inU n) = true := by
 unfold ckE at h
 by_cases e : tok n l = true
 · rw [if_pos e] at h
   exact ⟨e, h, (bErr_ok h).2.2.2.1⟩
 · rw [if_neg e] at h; omega
def chaseE (F : Nat) (n : Int) (l : List Rw) (p m : List Fd) : List St × (Int × List Rw) × Int := if ckE n l p m = 0 then stepsE F n l p m [] else ([], (0, []), ckE n l p m)
theorem chaseE_0 {F : Nat} {n : Int} {l : List Rw} {p m : List Fd} (h : ¬ ckE n l p m = 0) : chaseE F n l p m = ([], (0, []), ckE n l p m) := if_neg h
theorem chaseE_1 {F : Nat} {n : Int} {l : List Rw} {p m : List Fd} (h : ckE n l p m = 0) : chaseE F n l p m = stepsE F n l p m [] := if_pos h
theorem none_of {α : Type} {o : Option α} (h : o.isSome = false) : o = none := by cases o <;> simp_all
theorem some_of {α : Type} {o : Option α} (d : α) (h : o.isSome = true) : o = some (o.getD d) := by cases o <;> simp_all
theorem cov_self (l : List Rw) : Cov l.flatten l := fun r hr z hz => List.mem_flatten.2 ⟨r, hr, hz⟩
structure StI (F : Nat) (n : Int) (l : List Rw) (p m : List Fd) (x : Nat × List Rw × List St) : Prop where
 t : tok n x.2.1 = true
 c : Cov l.flatten x.2.1
 u : muC l.flatten x.2.1 < x.1
 b : x.2.2.length + x.1 ≤ F
 e : stepsE x.1 n x.2.1 p m x.2.2 = stepsE F n l p m []
theorem StI.start {F : Nat} {n : Int} {l : List Rw} {p m : List Fd} (hT : tok n l = true) (hF : muC l.flatten l < F) : StI F n l p m (F, l, []) := ⟨hT, cov_self l, hF, by simp, rfl⟩
theorem StI.next {F : Nat} {n : Int} {l : List Rw} {p m : List Fd} {x : Nat × List Rw × List St} {s : St} (h : StI F n l p m x) (hp : p.all (inU n) = true) (hS : nextE x.2.1 p m = some s) (he : (appE n x.2.1 p m s).2.2 = 0) :
 (appE n x.2.1 p m s).1 = n ∧ StI F n l p m (x.1 - 1, (appE n x.2.1 p m s).2.1, x.2.2 ++ [s]) := by
 have hu := h.u
 have hb := h.b
 rcases app_ok h.t hp (next_ok hS) with e | ⟨l', e, h1, h2⟩
 · rw [e] at he; exact absurd he (by decide)
 · have hq := h2 _ h.c
   refine ⟨by rw [e], ?_⟩
   rw [e]
   exact ⟨h1, hq.1, by show muC _ l' < _; omega, by simp only [List.length_append, List.length_singleton]; omega, by rw [← h.e, stepsE_next (by omega) hS e]⟩
theorem StI.fin {F : Nat} {n : Int} {l : List Rw} {p m : List Fd} {x : Nat × List Rw × List St} (h : StI F n l p m x) (hS : nextE x.2.1 p m = none) : stepsE F n l p m [] = (x.2.2, (n, x.2.1), 0) := by
 have hu := h.u
 rw [← h.e, stepsE_end (by omega) hS]
theorem StI.err {F : Nat} {n : Int} {l : List Rw} {p m : List Fd} {x : Nat × List Rw × List St} {s : St} (h : StI F n l p m x) (hS : nextE x.2.1 p m = some s) (he : ¬ (appE n x.2.1 p m s).2.2 = 0) : stepsE F n l p m [] = ([], (0, []), (appE n x.2.1 p m s).2.2) := by
 have hu := h.u
 rw [← h.e]
 exact stepsE_err (by omega) hS rfl he
end Go.Hx
end
section
namespace Go.Hx
open Go.Proofs
set_option maxRecDepth 100000
theorem good149 : goodFn Tryz.prog 149 := ⟨Tryz.f149, Tryz.func149, by kernel_rfl, by kernel_rfl⟩
theorem cSteps (F : Nat) (n : Int) (l : List Rw) (p m : List Fd) (hF : tok n l = true → muC l.flatten l < F) (hFb : F ≤ 4000000000) : HPure Tryz.prog 149 [pT n l, pP (fdl p), pP (fdl m)] (prOf [pP (stl (chaseE F n l p m).1), pT (chaseE F n l p m).2.1.1 (chaseE F n l p m).2.1.2, pI (chaseE F n l p m).2.2]) := by
 refine hpure_of (nt := 53) Tryzok Tryz.func149 rfl rfl l9 ?_; refine hw_seq ?_; refine gy ?_; refine m9 0 ?_; refine qy ?_; refine m9 1 ?_; refine qy ?_; refine rg_nil ?_; (iterate 2 refine hw_seq ?_); refine gy ?_
 (iterate 3 refine qy ?_); refine rc rfl rfl rfl rfl rfl rfl good180 (cChecked n l p m) (CoL.refl _) rfl rfl ?_; refine qy ?_; refine rg_nil ?_; refine hw_seq ?_; refine gy ?_; (iterate 2 refine qy ?_); refine rg_nil ?_
 refine hw_cond _ rfl (fun r0 => ?_) (fun r0 => ?_)
 ·
  have h0 := r0
  have h0 := of_decide_eq_false (not_t h0)
  try simp only [ty] at h0
  refine hw_seq ?_; refine gy ?_; (iterate 3 refine qy ?_); refine s9 ?_; refine qy ?_; refine rg_nil ?_; refine hw_ret ?_; refine ⟨.inr rfl, ?_⟩
  have he := chaseE_0 (F := F) (n := n) (l := l) (p := p) (m := m) (by assumption)
  exact f9 rfl rfl (by rw [he]; exact ⟨CoC.one (CoP.sl rfl (.inr rfl) (fun _ => rfl) (fun i j hi _ => absurd hi (Nat.not_lt_zero i))), CoC.agg ⟨CoP.refl _, co_nilZ, trivial⟩, CoC.refl _, trivial⟩)
 ·
  have h0 := r0
  have h0 := of_decide_eq_true (not_f h0)
  try simp only [ty] at h0
  have hck : ckE n l p m = 0 := by assumption
  obtain ⟨hT, hbe, hpa⟩ := ckE_ok hck
  obtain ⟨hn0, hn16, hl256, hrow⟩ := tok_get hT
  have hbig : ∀ i, i < l.length → (l.getD i default).length ≤ 17592186044416 := fun i hi => by rw [hrow i hi]; omega
  refine hw_skip ?_; refine hw_seq ?_; refine gy ?_; refine qy ?_; refine rc rfl rfl rfl rfl rfl rfl good181 (cCopiedP n l hbig (by omega)) (CoL.refl _) rfl rfl ?_; refine s9 ?_; refine rg_nil ?_; refine hw_seq ?_; refine gy ?_
  refine qy ?_; refine rg_nil ?_; refine hw_adopt 10 900 true 4 155 (lf St.c []) (by decide) rfl (CoP.sl rfl (.inr rfl) (fun h => h) (fun i j hi _ => absurd hi (Nat.not_lt_zero i))) (.inr rfl) rfl ?_; refine hw_block ?_
  refine hw_loopK (ι := Nat × List Rw × List St) ⟨[(1, some _), (2, some _), (3, some _), (7, some _)], [(1, some _)]⟩ ⟨⟨c9, c9, c9, c9, trivial⟩, ⟨u9, trivial⟩⟩ (fun x => ⟨[(10, some (.v (.one (.ref 900 x.2.2.length))))], [(0, some (.box [.p (.raw (.int .i64 n)), .p (rl x.2.1)])), (900, some (.arr true 4 155 x.2.2.length (lf St.c x.2.2)))]⟩) (fun x => StI F n l p m x) (fun x => x.1) ((F, l, [])) (StI.start hT (hF hT)) ⟨⟨zy, trivial⟩, ⟨u9, u9, trivial⟩⟩ ?_
  rintro x hX
  have hXu := hX.u
  have hXb := hX.b
  refine hw_block ?_; refine hw_seq ?_; refine gy ?_; (iterate 3 refine qy ?_); refine rc rfl rfl rfl rfl rfl rfl good182 (cNextZ n x.2.1 p m hX.t) (CoL.refl _) rfl rfl ?_; (iterate 3 refine qy ?_); refine m9 2 ?_; refine s9 ?_
  refine qy ?_; refine rg_nil ?_; (iterate 2 refine hw_seq ?_); refine gy ?_; (iterate 2 refine qy ?_); refine rg_nil ?_; refine hw_cond _ rfl (fun r1 => ?_) (fun r1 => ?_)
  ·
   have h1 := r1
   have h1 := not_t h1
   have hS := none_of (by simpa using h1)
   refine hw_seq ?_; refine hw_draw (E := TryzE) Tryzok Tryzmixed [0, 1, 2, 3, 4] ?_; (iterate 3 refine qy ?_); refine s9 ?_; refine qy ?_; refine rg_nil ?_; refine ⟨by kernel_rfl, ?_⟩; refine hw_freeze 6 rfl rfl rfl ?_
   refine hw_ret ?_; refine ⟨.inr rfl, ?_⟩
   have he := (chaseE_1 hck).trans (hX.fin hS)
   exact f9 rfl rfl (by rw [he]; exact CoL.refl _)
  ·
   have h1 := r1
   have h1 := not_f h1
   have hS := some_of (false, 0, 0, 0) (by simpa using h1)
   refine hw_skip ?_; refine hw_seq ?_; refine gy ?_; (iterate 4 refine qy ?_)
   refine rc rfl rfl rfl rfl rfl rfl good183 (cApply n x.2.1 p m ((nextE x.2.1 p m).getD (false, 0, 0, 0)) hX.t hpa (next_ok hS)) (CoL.refl _) rfl rfl ?_; (iterate 3 refine qy ?_); refine m9 3 ?_; refine s9 ?_; refine qy ?_
   refine rg_nil ?_; (iterate 2 refine hw_seq ?_); refine gy ?_; (iterate 2 refine qy ?_); refine rg_nil ?_; refine hw_cond _ rfl (fun r2 => ?_) (fun r2 => ?_)
   ·
    have h2 := r2
    have h2 := of_decide_eq_false (not_t h2)
    try simp only [ty] at h2
    refine hw_seq ?_; refine gy ?_; (iterate 3 refine qy ?_); refine s9 ?_; refine qy ?_; refine rg_nil ?_; refine hw_ret ?_; refine ⟨.inr rfl, ?_⟩
    have he := (chaseE_1 hck).trans (hX.err hS (by assumption))
    exact f9 rfl rfl (by rw [he]; exact ⟨CoC.one (CoP.sl rfl (.inr rfl) (fun _ => rfl) (fun i j hi _ => absurd hi (Nat.not_lt_zero i))), CoC.agg ⟨CoP.refl _, co_nilZ, trivial⟩, CoC.refl _, trivial⟩)
   ·
    have h2 := r2
    have h2 := of_decide_eq_true (not_f h2)
    try simp only [ty] at h2
    have hnx := hX.next hpa hS (by assumption)
    refine hw_skip ?_; refine hw_draw (E := TryzE) Tryzok Tryzmixed [0, 1, 2, 3, 4, 5, 6] ?_; (iterate 2 refine qy ?_); refine m9 4 ?_; refine ra 5 true rfl rfl rfl rfl rfl rfl ?_; (iterate 2 refine qy ?_); refine s9 ?_
    refine rg_nil ?_; refine ⟨by kernel_rfl, ?_⟩; refine ⟨(x.1 - 1, (appE n x.2.1 p m ((nextE x.2.1 p m).getD (false, 0, 0, 0))).2.1, x.2.2 ++ [((nextE x.2.1 p m).getD (false, 0, 0, 0))]), ?_, ?_, ?_⟩
    · exact hnx.2
    · show x.1 - 1 < x.1
      omega
    · exact ⟨⟨⟨_, rfl, (ref_app rfl)⟩, c9, c9, c9, c9, trivial⟩, ⟨⟨_, rfl, ⟨CoP.of_eq (by rw [hnx.1]), CoH.refl _, trivial⟩⟩, ⟨_, rfl, (arr_app rfl (fun j hj => by match j, hj with | 0, _ => exact CoP.refl _ | 1, _ => exact CoP.refl _ | 2, _ => exact CoP.refl _ | 3, _ => exact CoP.refl _) rfl)⟩, u9, trivial⟩⟩
end Go.Hx
end
section
namespace Go.Hx
theorem flat_len : ∀ {l : List Rw}, (∀ r, r ∈ l → r.length ≤ 16) → l.flatten.length ≤ 16 * l.length
 | [], _ => by simp
 | r :: l, h => by
  have h1 := h r (by simp)
  have h2 := flat_len (l := l) fun r hr => h r (by simp [hr])
  simp only [List.flatten_cons, List.length_append, List.length_cons]
  omega
abbrev FU : Nat := 1300000
theorem mu_all {n : Int} {l : List Rw} (h : tok n l = true) : muC l.flatten l < FU := by
 obtain ⟨h0, h1, h2, h3⟩ := tok_get h
 have h4 := flat_len (l := l) fun r hr => by have := (tok_wel h r hr).1; omega
 have h5 : symC l.flatten l ≤ l.flatten.length := List.countP_le_length
 unfold muC
 show _ < 1300000
 omega
theorem co_st0 {n : Int} {i : Nat} {p : AS} {k a N : Nat} (h : hasI p (k : Int) = true) (hN : N = n.toNat) (ha : a = k) :
 CoO (.arr true 1 3 N (setEl (lf zC (stT n i p k)) a 0 [.raw (.int .i64 (k : Int))])) (.arr true 1 3 N (lf zC (stT n i p (k + 1)))) := by
 subst ha
 refine ⟨fun h => h, rfl, rfl, rfl, fun c j hc hj => CoP.of_eq ?_⟩
 obtain rfl : j = 0 := by omega
 show _ = PV.raw (.int .i64 ((stT n i p (a + 1)).getD c default))
 rw [stT_next c (by omega)]
 unfold setEl
 by_cases e : c = a
 · rw [if_pos ⟨e, by omega, by simp⟩, if_pos e]
   unfold stV
   rw [if_pos h]
   rfl
 · rw [if_neg (fun x => e x.1), if_neg e]
   rfl
theorem full32 {k : Nat} (h : k < 32) : hasI (fullS 32) (k : Int) = true := by
 rw [hasI_nat h, fullS_bit 32 k h]
 exact decide_eq_true h
theorem stT_first {n : Int} {k : Nat} (h1 : n ≤ 16) (hk : n.toNat ≤ k) : stT n 0 (fullS 32) k = firstZ n := by
 rw [stT_end _ _ _ hk]
 unfold stR firstZ
 refine List.map_congr_left fun c hc => ?_
 have := List.mem_range.1 hc
 unfold stV
 rw [if_pos (full32 (by omega))]
theorem co_firstT {n : Int} {k : Nat} (h1 : n ≤ 16) (hk : n.toNat ≤ k) : CoC (.one (.sl n.toNat 1 false (lf zC (stT n 0 (fullS 32) k)))) (pZ (firstZ n)) := by
 rw [stT_first h1 hk]
 exact co_zl (firstZ_len n)
abbrev goalS (n : Int) (x : Fd) : List AS := [x.lhs ||| x.rhs, x.lhs ||| (fullI n &&& ~~~x.rhs)]
def implE (n : Int) (p m : List Fd) (x : Fd) : Bool × Int :=
 if bErr n p m = 0 then
  if inU n x = true then
   if (startE n (goalS n x)).2.2 = 0 then
    if (chaseE FU (startE n (goalS n x)).1 (startE n (goalS n x)).2.1 p m).2.2 = 0 then ((chaseE FU (startE n (goalS n x)).1 (startE n (goalS n x)).2.1 p m).2.1.2.any (fun r => decide (r = firstZ n)), 0)
    else (false, (chaseE FU (startE n (goalS n x)).1 (startE n (goalS n x)).2.1 p m).2.2)
   else (false, (startE n (goalS n x)).2.2)
  else (false, 1)
 else (false, bErr n p m)
end Go.Hx
end
section
namespace Go.Hx
open Go.Proofs
def muK (p : List Fd) (k : Nat) : Bool := decide (p.length ≤ k)
def ixK (p : List Fd) (k : Nat) : Nat := if p.length ≤ k then k - p.length else k
def chE (l : List Rw) (p m : List Fd) (s : St) : Bool := if s.1 = true then stepR l (m.getD s.2.1 default) s.2.2.1 s.2.2.2 else stepF l (p.getD s.2.1 default) s.2.2.1 s.2.2.2
def stepK (l : List Rw) (p m : List Fd) (k a b : Nat) : Bool := decide (a ≠ b) && chE l p m (muK p k, ixK p k, a, b)
def nextK (l : List Rw) (p m : List Fd) : Option St := (firstF (stepK l p m) (p.length + m.length) l.length).map fun x => (muK p x.1, ixK p x.1, x.2.1, x.2.2)
section
variable {l : List Rw} {p m : List Fd} {k a b : Nat}
end
end Go.Hx
end
section
namespace Go.Hx
theorem hasI_or {s t : AS} {i : Nat} : hasI (s ||| t) (i : Int) = (hasI s (i : Int) || hasI t (i : Int)) := by
 by_cases h : i < 32
 · rw [hasI_nat h, hasI_nat h, hasI_nat h, BitVec.getLsbD_or]
 · rw [hasI_f (by omega), hasI_f (by omega), hasI_f (by omega)]
   rfl
end Go.Hx
end
section
namespace Go.Hx
def badS (l : List Rw) (p m : List Fd) (mu : Bool) (i a b : Int) : Prop := a < 0 ∨ (l.length : Int) ≤ a ∨ b < 0 ∨ (l.length : Int) ≤ b ∨ a = b ∨ i < 0 ∨ (mu = true ∧ (m.length : Int) ≤ i) ∨ (mu = false ∧ (p.length : Int) ≤ i)
instance (l : List Rw) (p m : List Fd) (mu : Bool) (i a b : Int) : Decidable (badS l p m mu i a b) := by unfold badS; infer_instance
def applyE (n : Int) (l : List Rw) (p m : List Fd) (mu : Bool) (i a b : Int) : Int × List Rw × Int :=
 if ckE n l p m = 0 then if badS l p m mu i a b then (0, [], 1) else appE n l p m (mu, i.toNat, a.toNat, b.toNat) else (0, [], ckE n l p m)
section
variable {n : Int} {l : List Rw} {p m : List Fd} {mu : Bool} {i a b : Int}
end
end Go.Hx
end
section
namespace Go.Hx
def AgE (E : Int → Int → Prop) (a b : Rw) (s : AS) : Prop := ∀ i : Nat, i < a.length → hasI s (i : Int) = true → E (a.getD i default) (b.getD i default)
structure Mdl (N : Nat) (p m : List Fd) (E : Int → Int → Prop) (R : Rw → Prop) : Prop where
 refl : ∀ x, E x x
 symm : ∀ {x y}, E x y → E y x
 trans : ∀ {x y z}, E x y → E y z → E x z
 len : ∀ {r}, R r → r.length = N
 cong : ∀ {r r' : Rw}, R r → r'.length = r.length → (∀ i, i < r.length → E (r.getD i default) (r'.getD i default)) → R r'
 fd : ∀ {x}, x ∈ p → ∀ {a b}, R a → R b → AgE E a b x.lhs → AgE E a b x.rhs
 mv : ∀ {x}, x ∈ m → ∀ {a b}, R a → R b → AgE E a b x.lhs → R (mixZ a b (x.lhs ||| x.rhs))
def LE (N : Nat) (p m : List Fd) (l : List Rw) (x y : Int) : Prop := ∀ E R, Mdl N p m E R → (∀ r, r ∈ l → R r) → E x y
def LR (N : Nat) (p m : List Fd) (l : List Rw) (r : Rw) : Prop := ∀ E R, Mdl N p m E R → (∀ r, r ∈ l → R r) → R r
theorem mdl_all (N : Nat) (p m : List Fd) : Mdl N p m (fun _ _ => True) (fun r => r.length = N) :=
 ⟨fun _ => trivial, fun _ => trivial, fun _ _ => trivial, fun h => h, fun h e _ => e.trans h, fun _ _ _ _ _ _ _ _ _ => trivial, fun _ a b _ hb _ => (mixZ_len _ _ _).trans hb⟩
theorem least {N : Nat} {p m : List Fd} {l : List Rw} (hl : ∀ r, r ∈ l → r.length = N) : Mdl N p m (LE N p m l) (LR N p m l) where
 refl x := fun E R h _ => h.refl x
 symm h := fun E R k kl => k.symm (h E R k kl)
 trans h h2 := fun E R k kl => k.trans (h E R k kl) (h2 E R k kl)
 len h := h _ _ (mdl_all N p m) hl
 cong h e h2 := fun E R k kl => k.cong (h E R k kl) e fun i hi => h2 i hi E R k kl
 fd hx _ _ ha hb hl := fun i hi hs E R k kl => k.fd hx (ha E R k kl) (hb E R k kl) (fun j hj hh => hl j hj hh E R k kl) i hi hs
 mv hx _ _ ha hb hl := fun E R k kl => k.mv hx (ha E R k kl) (hb E R k kl) fun j hj hh => hl j hj hh E R k kl
structure Ch (N : Nat) (p m : List Fd) (l0 l : List Rw) (σ : Int → Int) : Prop where
 rows : ∀ r, r ∈ l → LR N p m l0 r
 sym : ∀ s, LE N p m l0 s (σ s)
 img : ∀ r, r ∈ l0 → r.map σ ∈ l
 fix : ∀ r, r ∈ l → ∀ z, z ∈ r → σ z = z
 le : ∀ s, σ s ≤ s
section
variable {N : Nat} {p m : List Fd} {l0 l l' : List Rw} {σ σ' : Int → Int} {n : Int}
theorem Ch.start : Ch N p m l0 l0 id := ⟨fun r hr E R _ hl => hl r hr, fun s E R k _ => k.refl s, fun r hr => by rw [List.map_id]; exact hr, fun _ _ _ _ => rfl, fun s => Int.le_refl s⟩
theorem Ch.congr (h : Ch N p m l0 l σ) (e : ∀ r, r ∈ l' ↔ r ∈ l) : Ch N p m l0 l' σ :=
 ⟨fun r hr => h.rows r ((e r).1 hr), h.sym, fun r hr => (e _).2 (h.img r hr), fun r hr => h.fix r ((e r).1 hr), h.le⟩
def subI (hi lo z : Int) : Int := if z = hi then lo else z
theorem getD_map {f : Int → Int} {r : Rw} {i : Nat} (h : i < r.length) : (r.map f).getD i default = f (r.getD i default) := by
 rw [List.getD_eq_getElem?_getD, List.getElem?_map, List.getElem?_eq_getElem h, List.getD_eq_getElem?_getD, List.getElem?_eq_getElem h]
 rfl
theorem Ch.sub (hl0 : ∀ r, r ∈ l0 → r.length = N) (h : Ch N p m l0 l σ) {hi lo : Int} (hE : LE N p m l0 hi lo) (hle : lo ≤ hi) (hin : ∃ r, r ∈ l ∧ lo ∈ r) : Ch N p m l0 (l.map fun r => r.map (subI hi lo)) (fun s => subI hi lo (σ s)) := by
 have hm := least (p := p) (m := m) hl0
 have hs : ∀ z, LE N p m l0 z (subI hi lo z) := fun z => by
  unfold subI
  split
  · rename_i e; rw [e]; exact hE
  · exact hm.refl z
 refine ⟨fun r hr => ?_, fun s => hm.trans (h.sym s) (hs _), fun r hr => ?_, fun r hr z hz => ?_, fun s => ?_⟩
 · obtain ⟨r0, h0, rfl⟩ := List.mem_map.1 hr
   exact hm.cong (h.rows r0 h0) (by simp) fun i hi => by rw [getD_map hi]; exact hs _
 · refine List.mem_map.2 ⟨_, h.img r hr, ?_⟩
   rw [List.map_map]
   rfl
 · obtain ⟨r0, h0, rfl⟩ := List.mem_map.1 hr
   obtain ⟨y, hy, rfl⟩ := List.mem_map.1 hz
   obtain ⟨r1, h1, h2⟩ := hin
   have e1 := h.fix r0 h0 y hy
   have e2 := h.fix r1 h1 lo h2
   by_cases e : y = hi
   · have e3 : subI hi lo y = lo := if_pos e
     show subI hi lo (σ (subI hi lo y)) = subI hi lo y
     rw [e3, e2]
     unfold subI
     split <;> rfl
   · have e3 : subI hi lo y = y := if_neg e
     show subI hi lo (σ (subI hi lo y)) = subI hi lo y
     rw [e3, e1, e3]
 · have h1 := h.le s
   have h2 : subI hi lo (σ s) ≤ σ s := by
    unfold subI
    split <;> omega
   exact Int.le_trans h2 h1
theorem rowsOf_eqM {M : Nat → Nat → Int} {a b j : Nat} : rowsOf l (eqM M a b j) = (rowsOf l M).map fun r => r.map (subI (hiI (M a j) (M b j)) (loI (M a j) (M b j))) := by
 unfold rowsOf
 rw [List.map_map]
 refine List.map_congr_left fun i _ => ?_
 show _ = List.map _ (List.map _ _)
 rw [List.map_map]
 rfl
theorem inRows {M : Nat → Nat → Int} {a j : Nat} (ha : a < l.length) (hj : j < (l.getD a default).length) : ∃ r, r ∈ rowsOf l M ∧ M a j ∈ r :=
 inV_rows.2 ⟨a, j, ha, hj, rfl⟩
theorem Ch.eqMs (hl0 : ∀ r, r ∈ l0 → r.length = N) {a b : Nat} (ha : a < l.length) (hb : b < l.length) : ∀ {js : List Nat} {M : Nat → Nat → Int} {σ : Int → Int}, Ch N p m l0 (rowsOf l M) σ → (∀ j, j ∈ js → j < (l.getD a default).length ∧ j < (l.getD b default).length ∧ LE N p m l0 (M a j) (M b j)) →
 ∃ σ', Ch N p m l0 (rowsOf l (eqMs M a b js)) σ'
 | [], M, σ, h, _ => ⟨σ, h⟩
 | j :: js, M, σ, h, hj => by
  obtain ⟨h1, h2, h3⟩ := hj j (by simp)
  have hm := least (p := p) (m := m) hl0
  have hlo : loI (M a j) (M b j) ≤ hiI (M a j) (M b j) := by unfold loI hiI; split <;> split <;> omega
  have hE : LE N p m l0 (hiI (M a j) (M b j)) (loI (M a j) (M b j)) := by
   rcases hi_or (M a j) (M b j) with e | e <;> rcases lo_or (M a j) (M b j) with f | f <;> rw [e, f]
   · exact hm.refl _
   · exact h3
   · exact hm.symm h3
   · exact hm.refl _
  have hin : ∃ r, r ∈ rowsOf l M ∧ loI (M a j) (M b j) ∈ r := by
   rcases lo_or (M a j) (M b j) with f | f <;> rw [f]
   · exact inRows ha h1
   · exact inRows hb h2
  have hq := h.sub hl0 hE hlo hin
  rw [← rowsOf_eqM] at hq
  have hs : ∀ z, LE N p m l0 z (if z = hiI (M a j) (M b j) then loI (M a j) (M b j) else z) := fun z => by
   split
   · rename_i e; rw [e]; exact hE
   · exact hm.refl z
  exact Ch.eqMs hl0 ha hb (js := js) hq fun k hk => by
   obtain ⟨h4, h5, h6⟩ := hj k (by simp [hk])
   exact ⟨h4, h5, hm.trans (hm.symm (hs (M a k))) (hm.trans h6 (hs (M b k)))⟩
theorem rowsOf_self : rowsOf l (matOf l) = l := by
 refine list_eq (rowsOf_len _ _) fun i hi => ?_
 rw [rowsOf_len] at hi
 rw [rowsOf_at hi]
 refine list_eq (by simp) fun k hk => ?_
 simp only [List.length_map, List.length_range] at hk
 rw [List.getD_eq_getElem?_getD, List.getElem?_map, List.getElem?_range hk]
 rfl
theorem agr_E (hl0 : ∀ r, r ∈ l0 → r.length = N) {a b : Rw} {s : AS} (h : agrZ a b s = true) : AgE (LE N p m l0) a b s := fun i hi hs => by
 rw [of_decide_eq_true h i hi hs]
 exact (least hl0).refl _
theorem mem_getD {α : Type} [Inhabited α] {l : List α} {i : Nat} (h : i < l.length) : l.getD i default ∈ l := by
 rw [List.getD_eq_getElem?_getD, List.getElem?_eq_getElem h]
 exact List.getElem_mem h
theorem mem_mixZ {a b : Rw} {s : AS} (hl : a.length = b.length) {z : Int} (hz : z ∈ mixZ a b s) : z ∈ a ∨ z ∈ b := by
 unfold mixZ at hz
 rw [List.mem_map] at hz
 obtain ⟨i, hi, rfl⟩ := hz
 have hi := List.mem_range.1 hi
 split
 · exact .inl (mem_getD (by omega))
 · exact .inr (mem_getD hi)
def okIx (l : List Rw) (p m : List Fd) (s : St) : Prop := s.2.2.1 < l.length ∧ s.2.2.2 < l.length ∧ (s.1 = false → s.2.1 < p.length) ∧ (s.1 = true → s.2.1 < m.length)
theorem Ch.app (hl0 : ∀ r, r ∈ l0 → r.length = n.toNat) (hT : tok n l = true) (hp : p.all (inU n) = true) (h : Ch n.toNat p m l0 l σ) {s : St} (hs : okIx l p m s) (he : (appE n l p m s).2.2 = 0) :
 (appE n l p m s).1 = n ∧ ∃ σ', Ch n.toNat p m l0 (appE n l p m s).2.1 σ' := by
 obtain ⟨mu, i, a, b⟩ := s
 obtain ⟨ha, hb, hf, hv⟩ := hs
 obtain ⟨h0, h1, h2, h3⟩ := tok_get hT
 have ha : a < l.length := ha
 have hb : b < l.length := hb
 have hra := h3 a ha
 have hrb := h3 b hb
 cases mu with
 | false =>
  have hi : i < p.length := hf rfl
  have e0 : appE n l p m (false, i, a, b) = fdE n l a b (p.getD i default) := rfl
  rw [e0] at he ⊢
  by_cases hg : agrZ (l.getD a default) (l.getD b default) (p.getD i default).lhs = true
  · have e1 : fdE n l a b (p.getD i default) = (n, canon (rowsOf l (Go.Hx.eqMs (matOf l) a b (membs (p.getD i default).rhs))), 0) := if_pos hg
    rw [e1]
    refine ⟨rfl, ?_⟩
    have hu : inU n (p.getD i default) = true := List.all_eq_true.1 hp _ (mem_getD hi)
    have hm := least (p := p) (m := m) hl0
    have hR := hm.fd (mem_getD hi) (h.rows _ (mem_getD ha)) (h.rows _ (mem_getD hb)) (agr_E hl0 hg)
    obtain ⟨σ', hσ⟩ := Ch.eqMs (p := p) (m := m) hl0 ha hb (js := membs (p.getD i default).rhs) (M := matOf l) (σ := σ) (by rw [rowsOf_self]; exact h) fun j hj => by
     have h4 := memb_in h0 h1 hu hj
     have h5 := mem_membs.1 hj
     refine ⟨Nat.lt_of_lt_of_eq h4 hra.symm, Nat.lt_of_lt_of_eq h4 hrb.symm, hR j (Nat.lt_of_lt_of_eq h4 hra.symm) (by rw [hasI_nat h5.1]; exact h5.2)⟩
    exact ⟨σ', hσ.congr fun r => mem_canon⟩
  · have e1 : fdE n l a b (p.getD i default) = (0, [], 1) := if_neg hg
    rw [e1] at he
    exact absurd he (by decide)
 | true =>
  have hi : i < m.length := hv rfl
  have e0 : appE n l p m (true, i, a, b) = mvE n l a b (m.getD i default) := rfl
  rw [e0] at he ⊢
  by_cases hg : agrZ (l.getD a default) (l.getD b default) (m.getD i default).lhs = true
  · have e1 : mvE n l a b (m.getD i default) = addE n l (mixZ (l.getD a default) (l.getD b default) ((m.getD i default).lhs ||| (m.getD i default).rhs)) := if_pos hg
    rw [e1] at he ⊢
    by_cases hbig : 256 < (canon (l ++ [mixZ (l.getD a default) (l.getD b default) ((m.getD i default).lhs ||| (m.getD i default).rhs)])).length
    · have e2 : addE n l (mixZ (l.getD a default) (l.getD b default) ((m.getD i default).lhs ||| (m.getD i default).rhs)) = (0, [], 3) := if_pos hbig
      rw [e2] at he
      exact absurd he (by decide)
    · have e2 : addE n l (mixZ (l.getD a default) (l.getD b default) ((m.getD i default).lhs ||| (m.getD i default).rhs)) = (n, canon (l ++ [mixZ (l.getD a default) (l.getD b default) ((m.getD i default).lhs ||| (m.getD i default).rhs)]), 0) := if_neg hbig
      rw [e2]
      refine ⟨rfl, σ, ?_⟩
      have hm := least (p := p) (m := m) hl0
      have hR := hm.mv (mem_getD hi) (h.rows _ (mem_getD ha)) (h.rows _ (mem_getD hb)) (agr_E hl0 hg)
      refine ⟨fun r hr => ?_, h.sym, fun r hr => mem_canon.2 (List.mem_append_left _ (h.img r hr)), fun r hr z hz => ?_, h.le⟩
      · rcases List.mem_append.1 (mem_canon.1 hr) with h4 | h4
        · exact h.rows r h4
        · rw [List.mem_singleton.1 h4]; exact hR
      · rcases List.mem_append.1 (mem_canon.1 hr) with h4 | h4
        · exact h.fix r h4 z hz
        · rw [List.mem_singleton.1 h4] at hz
          rcases mem_mixZ (by omega) hz with h5 | h5
          · exact h.fix _ (mem_getD ha) z h5
          · exact h.fix _ (mem_getD hb) z h5
  · have e1 : mvE n l a b (m.getD i default) = (0, [], 1) := if_neg hg
    rw [e1] at he
    exact absurd he (by decide)
theorem firstF_non {P : Nat → Nat → Nat → Bool} {I L : Nat} (h : firstF P I L = none) {i a b : Nat} (hi : i < I) (ha : a < L) (hb : b < L) : P i a b = false := by
 unfold firstF at h
 rw [List.findSome?_eq_none_iff] at h
 have h1 := h i (List.mem_range.2 hi)
 rw [List.findSome?_eq_none_iff] at h1
 have h2 := h1 a (List.mem_range.2 ha)
 rw [Option.map_eq_none_iff, List.find?_eq_none] at h2
 exact Bool.eq_false_iff.2 (h2 b (List.mem_range.2 hb))
theorem nextE_non (h : nextE l p m = none) : (∀ i, i < p.length → ∀ a, a < l.length → ∀ b, b < l.length → stepF l (p.getD i default) a b = false) ∧ ∀ i, i < m.length → ∀ a, a < l.length → ∀ b, b < l.length → stepM l (m.getD i default) a b = false := by
 unfold nextE at h
 split at h
 · cases h
 · rename_i e
   rw [Option.map_eq_none_iff] at h
   exact ⟨fun i hi a ha b hb => firstF_non (P := fun i a b => stepF l (p.getD i default) a b) e hi ha hb, fun i hi a ha b hb => firstF_non (P := fun i a b => stepM l (m.getD i default) a b) h hi ha hb⟩
theorem mem_at {α : Type} [Inhabited α] {l : List α} {x : α} (h : x ∈ l) : ∃ i, i < l.length ∧ l.getD i default = x := by
 obtain ⟨i, hi, rfl⟩ := List.getElem_of_mem h
 exact ⟨i, hi, by rw [List.getD_eq_getElem?_getD, List.getElem?_eq_getElem hi]; rfl⟩
theorem map_mixZ {f : Int → Int} {a b : Rw} {s : AS} (hl : a.length = b.length) : mixZ (a.map f) (b.map f) s = (mixZ a b s).map f := by
 unfold mixZ
 rw [List.map_map, List.length_map]
 refine List.map_congr_left fun i hi => ?_
 have hi := List.mem_range.1 hi
 show _ = f (if hasI s (i : Int) = true then a.getD i default else b.getD i default)
 split
 · rw [getD_map (by omega)]
 · rw [getD_map hi]
theorem Ch.mdl (hT : tok n l = true) (hn : nextE l p m = none) (σ : Int → Int) : Mdl n.toNat p m (fun x y => σ x = σ y) (fun r => r.length = n.toNat ∧ r.map σ ∈ l) := by
 obtain ⟨hF, hM⟩ := nextE_non hn
 refine ⟨fun _ => rfl, fun h => h.symm, fun h k => h.trans k, fun h => h.1, fun {r r'} h e h2 => ⟨e.trans h.1, ?_⟩, fun {x} hx {a b} ha hb hl i hi hs => ?_, fun {x} hx {a b} ha hb hl => ⟨(mixZ_len _ _ _).trans hb.1, ?_⟩⟩
 · have : r'.map σ = r.map σ := by
    refine list_eq (by simp [e]) fun i hi => ?_
    rw [List.length_map] at hi
    rw [getD_map hi, getD_map (by omega)]
    exact (h2 i (by omega)).symm
   rw [this]; exact h.2
 · obtain ⟨k, hk, rfl⟩ := mem_at hx
   obtain ⟨ia, hia, ea⟩ := mem_at ha.2
   obtain ⟨ib, hib, eb⟩ := mem_at hb.2
   have h1 := hF k hk ia hia ib hib
   unfold stepF at h1
   rw [ea, eb, agrZ_t (fun j hj hs => by rw [List.length_map] at hj; rw [getD_map hj, getD_map (by rw [hb.1, ← ha.1]; exact hj)]; exact hl j hj hs), Bool.true_and, Bool.not_eq_false'] at h1
   have h2 := of_decide_eq_true h1 i (by rw [List.length_map]; exact hi) hs
   rw [getD_map hi, getD_map (by rw [hb.1, ← ha.1]; exact hi)] at h2
   exact h2
 · obtain ⟨k, hk, rfl⟩ := mem_at hx
   obtain ⟨ia, hia, ea⟩ := mem_at ha.2
   obtain ⟨ib, hib, eb⟩ := mem_at hb.2
   have h1 := hM k hk ia hia ib hib
   unfold stepM at h1
   rw [ea, eb, agrZ_t (fun j hj hs => by rw [List.length_map] at hj; rw [getD_map hj, getD_map (by rw [hb.1, ← ha.1]; exact hj)]; exact hl j hj hs), Bool.true_and, Bool.not_eq_false'] at h1
   obtain ⟨r, hr, e⟩ := List.any_eq_true.1 h1
   rw [← map_mixZ (by rw [ha.1, hb.1]), ← of_decide_eq_true e]
   exact hr
theorem Ch.has (h : Ch n.toNat p m l0 l σ) (hT : tok n l = true) (hl0 : ∀ r, r ∈ l0 → r.length = n.toNat) (hn : nextE l p m = none) : (∀ x y, LE n.toNat p m l0 x y → σ x = σ y) ∧ ∀ r, LR n.toNat p m l0 r → r.map σ ∈ l := by
 have hm := Ch.mdl (p := p) (m := m) hT hn σ
 have hl : ∀ r, r ∈ l0 → r.length = n.toNat ∧ r.map σ ∈ l := fun r hr => ⟨hl0 r hr, h.img r hr⟩
 exact ⟨fun x y e => e _ _ hm hl, fun r e => (e _ _ hm hl).2⟩
theorem map_fix {f : Int → Int} : ∀ {r : Rw}, (∀ z, z ∈ r → f z = z) → r.map f = r
 | [], _ => rfl
 | z :: r, h => by rw [List.map_cons, h z (by simp), map_fix fun y hy => h y (by simp [hy])]
theorem Ch.mem (h : Ch n.toNat p m l0 l σ) (hT : tok n l = true) (hl0 : ∀ r, r ∈ l0 → r.length = n.toNat) (hn : nextE l p m = none) {r : Rw} : r ∈ l ↔ LR n.toNat p m l0 r ∧ r.map σ = r := by
 constructor
 · intro hr
   exact ⟨h.rows r hr, map_fix (h.fix r hr)⟩
 · rintro ⟨h1, h2⟩
   rw [← h2]
   exact (h.has hT hl0 hn).2 r h1
end
end Go.Hx
end
