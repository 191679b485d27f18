/- A part of the proof: Cc1 Cc2 Cc3 Ls1 Cs24 Cs26 V25 Cs27 V26. -/
import Derived.Test.YtidophngianjiaaGreatDoor9x22
import Derived.Test.YtidophngianjiaaGreatDoor9x32
set_option linter.all false
section
namespace Go.Hx
def AgE (E : Int → Int → Prop) (a b : Rw) (s : AS) : Prop := ∀ i : Nat, i < a.length → cu s (i : Int) = true → E (a.getD i default) (b.getD i default)
structure Mdl (N : Nat) (p m : List Fd) (E : Int → Int → Prop) (R : Rw → Prop) : Prop where
 refl : ∀ x, E x x
 symm : ∀ {x y}, E x y → E y x
 trans : ∀ {x y z}, E x y → E y z → E x z
 len : ∀ {r}, R r → r.length = N
 cong : ∀ {r r' : Rw}, R r → r'.length = r.length → (∀ i, i < r.length → E (r.getD i default) (r'.getD i default)) → R r'
 fd : ∀ {x}, x ∈ p → ∀ {a b}, R a → R b → AgE E a b x.lhs → AgE E a b x.rhs
 mv : ∀ {x}, x ∈ m → ∀ {a b}, R a → R b → AgE E a b x.lhs → R (d8 a b (x.lhs ||| x.rhs))
def LE (N : Nat) (p m : List Fd) (l : List Rw) (x y : Int) : Prop := ∀ E R, Mdl N p m E R → (∀ r, r ∈ l → R r) → E x y
def LR (N : Nat) (p m : List Fd) (l : List Rw) (r : Rw) : Prop := ∀ E R, Mdl N p m E R → (∀ r, r ∈ l → R r) → R r
theorem as3 (N : Nat) (p m : List Fd) : Mdl N p m (fun _ _ => True) (fun r => r.length = N) :=
 ⟨fun _ => trivial, fun _ => trivial, fun _ _ => trivial, fun h => h, fun h e _ => e.trans h, fun _ _ _ _ _ _ _ _ _ => trivial, fun _ a b _ hb _ => (kj _ _ _).trans hb⟩
theorem a0a {N : Nat} {p m : List Fd} {l : List Rw} (hl : ∀ r, r ∈ l → r.length = N) : Mdl N p m (LE N p m l) (LR N p m l) where
 refl x := fun E R h _ => h.refl x
 symm h := fun E R k kl => k.symm (h E R k kl)
 trans h h2 := fun E R k kl => k.trans (h E R k kl) (h2 E R k kl)
 len h := h _ _ (as3 N p m) hl
 cong h e h2 := fun E R k kl => k.cong (h E R k kl) e fun i hi => h2 i hi E R k kl
 fd hx _ _ ha hb hl := fun i hi hs E R k kl => k.fd hx (ha E R k kl) (hb E R k kl) (fun j hj hh => hl j hj hh E R k kl) i hi hs
 mv hx _ _ ha hb hl := fun E R k kl => k.mv hx (ha E R k kl) (hb E R k kl) fun j hj hh => hl j hj hh E R k kl
structure Ch (N : Nat) (p m : List Fd) (l0 l : List Rw) (σ : Int → Int) : Prop where
 rows : ∀ r, r ∈ l → LR N p m l0 r
 sym : ∀ s, LE N p m l0 s (σ s)
 img : ∀ r, r ∈ l0 → r.map σ ∈ l
 fix : ∀ r, r ∈ l → ∀ z, z ∈ r → σ z = z
 le : ∀ s, σ s ≤ s
section
variable {N : Nat} {p m : List Fd} {l0 l l' : List Rw} {σ σ' : Int → Int} {n : Int}
theorem Ch.start : Ch N p m l0 l0 id := ⟨fun r hr E R _ hl => hl r hr, fun s E R k _ => k.refl s, fun r hr => by rw [List.map_id]; exact hr, fun _ _ _ _ => rfl, fun s => Int.le_refl s⟩
theorem Ch.congr (h : Ch N p m l0 l σ) (e : ∀ r, r ∈ l' ↔ r ∈ l) : Ch N p m l0 l' σ :=
 ⟨fun r hr => h.rows r ((e r).1 hr), h.sym, fun r hr => (e _).2 (h.img r hr), fun r hr => h.fix r ((e r).1 hr), h.le⟩
def lj (hi lo z : Int) : Int := if z = hi then lo else z
theorem ik {f : Int → Int} {r : Rw} {i : Nat} (h : i < r.length) : (r.map f).getD i default = f (r.getD i default) := by
 rw [List.getD_eq_getElem?_getD, List.getElem?_map, List.getElem?_eq_getElem h, List.getD_eq_getElem?_getD, List.getElem?_eq_getElem h]
 rfl
theorem Ch.sub (hl0 : ∀ r, r ∈ l0 → r.length = N) (h : Ch N p m l0 l σ) {hi lo : Int} (hE : LE N p m l0 hi lo) (hle : lo ≤ hi) (hin : ∃ r, r ∈ l ∧ lo ∈ r) : Ch N p m l0 (l.map fun r => r.map (lj hi lo)) (fun s => lj hi lo (σ s)) := by
 have hm := a0a (p := p) (m := m) hl0
 have hs : ∀ z, LE N p m l0 z (lj hi lo z) := fun z => by
  unfold lj
  split
  · rename_i e; rw [e]; exact hE
  · exact hm.refl z
 refine ⟨fun r hr => ?_, fun s => hm.trans (h.sym s) (hs _), fun r hr => ?_, fun r hr z hz => ?_, fun s => ?_⟩
 · obtain ⟨r0, h0, rfl⟩ := List.mem_map.1 hr
   exact hm.cong (h.rows r0 h0) (by simp) fun i hi => by rw [ik hi]; exact hs _
 · refine List.mem_map.2 ⟨_, h.img r hr, ?_⟩
   rw [List.map_map]
   rfl
 · obtain ⟨r0, h0, rfl⟩ := List.mem_map.1 hr
   obtain ⟨y, hy, rfl⟩ := List.mem_map.1 hz
   obtain ⟨r1, h1, h2⟩ := hin
   have e1 := h.fix r0 h0 y hy
   have e2 := h.fix r1 h1 lo h2
   by_cases e : y = hi
   · have e3 : lj hi lo y = lo := if_pos e
     show lj hi lo (σ (lj hi lo y)) = lj hi lo y
     rw [e3, e2]
     unfold lj
     split <;> rfl
   · have e3 : lj hi lo y = y := if_neg e
     show lj hi lo (σ (lj hi lo y)) = lj hi lo y
     rw [e3, e1, e3]
 · have h1 := h.le s
   have h2 : lj hi lo (σ s) ≤ σ s := by
    unfold lj
    split <;> omega
   exact Int.le_trans h2 h1
theorem agk {M : Nat → Nat → Int} {a b j : Nat} : d7 l (eqM M a b j) = (d7 l M).map fun r => r.map (lj (hiI (M a j) (M b j)) (loI (M a j) (M b j))) := by
 unfold d7
 rw [List.map_map]
 refine List.map_congr_left fun i _ => ?_
 show _ = List.map _ (List.map _ _)
 rw [List.map_map]
 rfl
theorem ahp {M : Nat → Nat → Int} {a j : Nat} (ha : a < l.length) (hj : j < (l.getD a default).length) : ∃ r, r ∈ d7 l M ∧ M a j ∈ r :=
 a2w.2 ⟨a, j, ha, hj, rfl⟩
theorem Ch.eqMs (hl0 : ∀ r, r ∈ l0 → r.length = N) {a b : Nat} (ha : a < l.length) (hb : b < l.length) : ∀ {js : List Nat} {M : Nat → Nat → Int} {σ : Int → Int}, Ch N p m l0 (d7 l M) σ → (∀ j, j ∈ js → j < (l.getD a default).length ∧ j < (l.getD b default).length ∧ LE N p m l0 (M a j) (M b j)) →
 ∃ σ', Ch N p m l0 (d7 l (eqMs M a b js)) σ'
 | [], M, σ, h, _ => ⟨σ, h⟩
 | j :: js, M, σ, h, hj => by
  obtain ⟨h1, h2, h3⟩ := hj j (by simp)
  have hm := a0a (p := p) (m := m) hl0
  have hlo : loI (M a j) (M b j) ≤ hiI (M a j) (M b j) := by unfold loI hiI; split <;> split <;> omega
  have hE : LE N p m l0 (hiI (M a j) (M b j)) (loI (M a j) (M b j)) := by
   rcases apl (M a j) (M b j) with e | e <;> rcases ag8 (M a j) (M b j) with f | f <;> rw [e, f]
   · exact hm.refl _
   · exact h3
   · exact hm.symm h3
   · exact hm.refl _
  have hin : ∃ r, r ∈ d7 l M ∧ loI (M a j) (M b j) ∈ r := by
   rcases ag8 (M a j) (M b j) with f | f <;> rw [f]
   · exact ahp ha h1
   · exact ahp hb h2
  have hq := h.sub hl0 hE hlo hin
  rw [← agk] at hq
  have hs : ∀ z, LE N p m l0 z (if z = hiI (M a j) (M b j) then loI (M a j) (M b j) else z) := fun z => by
   split
   · rename_i e; rw [e]; exact hE
   · exact hm.refl z
  exact Ch.eqMs hl0 ha hb (js := js) hq fun k hk => by
   obtain ⟨h4, h5, h6⟩ := hj k (by simp [hk])
   exact ⟨h4, h5, hm.trans (hm.symm (hs (M a k))) (hm.trans h6 (hs (M b k)))⟩
theorem ace : d7 l (bv l) = l := by
 refine jm (j4 _ _) fun i hi => ?_
 rw [j4] at hi
 rw [a88 hi]
 refine jm (by simp) fun k hk => ?_
 simp only [List.length_map, List.length_range] at hk
 rw [List.getD_eq_getElem?_getD, List.getElem?_map, List.getElem?_range hk]
 rfl
theorem ag3 (hl0 : ∀ r, r ∈ l0 → r.length = N) {a b : Rw} {s : AS} (h : i7 a b s = true) : AgE (LE N p m l0) a b s := fun i hi hs => by
 rw [of_decide_eq_true h i hi hs]
 exact (a0a hl0).refl _
theorem d6 {α : Type} [Inhabited α] {l : List α} {i : Nat} (h : i < l.length) : l.getD i default ∈ l := by
 rw [List.getD_eq_getElem?_getD, List.getElem?_eq_getElem h]
 exact List.getElem_mem h
theorem anb {a b : Rw} {s : AS} (hl : a.length = b.length) {z : Int} (hz : z ∈ d8 a b s) : z ∈ a ∨ z ∈ b := by
 unfold d8 at hz
 rw [List.mem_map] at hz
 obtain ⟨i, hi, rfl⟩ := hz
 have hi := List.mem_range.1 hi
 split
 · exact .inl (d6 (by omega))
 · exact .inr (d6 hi)
def axc (l : List Rw) (p m : List Fd) (s : St) : Prop := s.2.2.1 < l.length ∧ s.2.2.2 < l.length ∧ (s.1 = false → s.2.1 < p.length) ∧ (s.1 = true → s.2.1 < m.length)
theorem Ch.app (hl0 : ∀ r, r ∈ l0 → r.length = n.toNat) (hT : tok n l = true) (hp : p.all (inU n) = true) (h : Ch n.toNat p m l0 l σ) {s : St} (hs : axc l p m s) (he : (dg n l p m s).2.2 = 0) :
 (dg n l p m s).1 = n ∧ ∃ σ', Ch n.toNat p m l0 (dg n l p m s).2.1 σ' := by
 obtain ⟨mu, i, a, b⟩ := s
 obtain ⟨ha, hb, hf, hv⟩ := hs
 obtain ⟨h0, h1, h2, h3⟩ := fz hT
 have ha : a < l.length := ha
 have hb : b < l.length := hb
 have hra := h3 a ha
 have hrb := h3 b hb
 cases mu with
 | false =>
  have hi : i < p.length := hf rfl
  have e0 : dg n l p m (false, i, a, b) = fdE n l a b (p.getD i default) := rfl
  rw [e0] at he ⊢
  by_cases hg : i7 (l.getD a default) (l.getD b default) (p.getD i default).lhs = true
  · have e1 : fdE n l a b (p.getD i default) = (n, ay (d7 l (Go.Hx.eqMs (bv l) a b (b4 (p.getD i default).rhs))), 0) := if_pos hg
    rw [e1]
    refine ⟨rfl, ?_⟩
    have hu : inU n (p.getD i default) = true := List.all_eq_true.1 hp _ (d6 hi)
    have hm := a0a (p := p) (m := m) hl0
    have hR := hm.fd (d6 hi) (h.rows _ (d6 ha)) (h.rows _ (d6 hb)) (ag3 hl0 hg)
    obtain ⟨σ', hσ⟩ := Ch.eqMs (p := p) (m := m) hl0 ha hb (js := b4 (p.getD i default).rhs) (M := bv l) (σ := σ) (by rw [ace]; exact h) fun j hj => by
     have h4 := a07 h0 h1 hu hj
     have h5 := pb.1 hj
     refine ⟨Nat.lt_of_lt_of_eq h4 hra.symm, Nat.lt_of_lt_of_eq h4 hrb.symm, hR j (Nat.lt_of_lt_of_eq h4 hra.symm) (by rw [fy h5.1]; exact h5.2)⟩
    exact ⟨σ', hσ.congr fun r => ey⟩
  · have e1 : fdE n l a b (p.getD i default) = (0, [], 1) := if_neg hg
    rw [e1] at he
    exact absurd he (by decide)
 | true =>
  have hi : i < m.length := hv rfl
  have e0 : dg n l p m (true, i, a, b) = mvE n l a b (m.getD i default) := rfl
  rw [e0] at he ⊢
  by_cases hg : i7 (l.getD a default) (l.getD b default) (m.getD i default).lhs = true
  · have e1 : mvE n l a b (m.getD i default) = od n l (d8 (l.getD a default) (l.getD b default) ((m.getD i default).lhs ||| (m.getD i default).rhs)) := if_pos hg
    rw [e1] at he ⊢
    by_cases hbig : 256 < (ay (l ++ [d8 (l.getD a default) (l.getD b default) ((m.getD i default).lhs ||| (m.getD i default).rhs)])).length
    · have e2 : od n l (d8 (l.getD a default) (l.getD b default) ((m.getD i default).lhs ||| (m.getD i default).rhs)) = (0, [], 3) := if_pos hbig
      rw [e2] at he
      exact absurd he (by decide)
    · have e2 : od n l (d8 (l.getD a default) (l.getD b default) ((m.getD i default).lhs ||| (m.getD i default).rhs)) = (n, ay (l ++ [d8 (l.getD a default) (l.getD b default) ((m.getD i default).lhs ||| (m.getD i default).rhs)]), 0) := if_neg hbig
      rw [e2]
      refine ⟨rfl, σ, ?_⟩
      have hm := a0a (p := p) (m := m) hl0
      have hR := hm.mv (d6 hi) (h.rows _ (d6 ha)) (h.rows _ (d6 hb)) (ag3 hl0 hg)
      refine ⟨fun r hr => ?_, h.sym, fun r hr => ey.2 (List.mem_append_left _ (h.img r hr)), fun r hr z hz => ?_, h.le⟩
      · rcases List.mem_append.1 (ey.1 hr) with h4 | h4
        · exact h.rows r h4
        · rw [List.mem_singleton.1 h4]; exact hR
      · rcases List.mem_append.1 (ey.1 hr) with h4 | h4
        · exact h.fix r h4 z hz
        · rw [List.mem_singleton.1 h4] at hz
          rcases anb (by omega) hz with h5 | h5
          · exact h.fix _ (d6 ha) z h5
          · exact h.fix _ (d6 hb) z h5
  · have e1 : mvE n l a b (m.getD i default) = (0, [], 1) := if_neg hg
    rw [e1] at he
    exact absurd he (by decide)
theorem a4g {P : Nat → Nat → Nat → Bool} {I L : Nat} (h : ec P I L = none) {i a b : Nat} (hi : i < I) (ha : a < L) (hb : b < L) : P i a b = false := by
 unfold ec at h
 rw [List.findSome?_eq_none_iff] at h
 have h1 := h i (List.mem_range.2 hi)
 rw [List.findSome?_eq_none_iff] at h1
 have h2 := h1 a (List.mem_range.2 ha)
 rw [Option.map_eq_none_iff, List.find?_eq_none] at h2
 exact Bool.eq_false_iff.2 (h2 b (List.mem_range.2 hb))
theorem aim (h : dh l p m = none) : (∀ i, i < p.length → ∀ a, a < l.length → ∀ b, b < l.length → dt l (p.getD i default) a b = false) ∧ ∀ i, i < m.length → ∀ a, a < l.length → ∀ b, b < l.length → dx l (m.getD i default) a b = false := by
 unfold dh at h
 split at h
 · cases h
 · rename_i e
   rw [Option.map_eq_none_iff] at h
   exact ⟨fun i hi a ha b hb => a4g (P := fun i a b => dt l (p.getD i default) a b) e hi ha hb, fun i hi a ha b hb => a4g (P := fun i a b => dx l (m.getD i default) a b) h hi ha hb⟩
theorem nu {α : Type} [Inhabited α] {l : List α} {x : α} (h : x ∈ l) : ∃ i, i < l.length ∧ l.getD i default = x := by
 obtain ⟨i, hi, rfl⟩ := List.getElem_of_mem h
 exact ⟨i, hi, by rw [List.getD_eq_getElem?_getD, List.getElem?_eq_getElem hi]; rfl⟩
theorem amx {f : Int → Int} {a b : Rw} {s : AS} (hl : a.length = b.length) : d8 (a.map f) (b.map f) s = (d8 a b s).map f := by
 unfold d8
 rw [List.map_map, List.length_map]
 refine List.map_congr_left fun i hi => ?_
 have hi := List.mem_range.1 hi
 show _ = f (if cu s (i : Int) = true then a.getD i default else b.getD i default)
 split
 · rw [ik (by omega)]
 · rw [ik hi]
theorem Ch.mdl (hT : tok n l = true) (hn : dh l p m = none) (σ : Int → Int) : Mdl n.toNat p m (fun x y => σ x = σ y) (fun r => r.length = n.toNat ∧ r.map σ ∈ l) := by
 obtain ⟨hF, hM⟩ := aim hn
 refine ⟨fun _ => rfl, fun h => h.symm, fun h k => h.trans k, fun h => h.1, fun {r r'} h e h2 => ⟨e.trans h.1, ?_⟩, fun {x} hx {a b} ha hb hl i hi hs => ?_, fun {x} hx {a b} ha hb hl => ⟨(kj _ _ _).trans hb.1, ?_⟩⟩
 · have : r'.map σ = r.map σ := by
    refine jm (by simp [e]) fun i hi => ?_
    rw [List.length_map] at hi
    rw [ik hi, ik (by omega)]
    exact (h2 i (by omega)).symm
   rw [this]; exact h.2
 · obtain ⟨k, hk, rfl⟩ := nu hx
   obtain ⟨ia, hia, ea⟩ := nu ha.2
   obtain ⟨ib, hib, eb⟩ := nu hb.2
   have h1 := hF k hk ia hia ib hib
   unfold dt at h1
   rw [ea, eb, vj (fun j hj hs => by rw [List.length_map] at hj; rw [ik hj, ik (by rw [hb.1, ← ha.1]; exact hj)]; exact hl j hj hs), Bool.true_and, Bool.not_eq_false'] at h1
   have h2 := of_decide_eq_true h1 i (by rw [List.length_map]; exact hi) hs
   rw [ik hi, ik (by rw [hb.1, ← ha.1]; exact hi)] at h2
   exact h2
 · obtain ⟨k, hk, rfl⟩ := nu hx
   obtain ⟨ia, hia, ea⟩ := nu ha.2
   obtain ⟨ib, hib, eb⟩ := nu hb.2
   have h1 := hM k hk ia hia ib hib
   unfold dx at h1
   rw [ea, eb, vj (fun j hj hs => by rw [List.length_map] at hj; rw [ik hj, ik (by rw [hb.1, ← ha.1]; exact hj)]; exact hl j hj hs), Bool.true_and, Bool.not_eq_false'] at h1
   obtain ⟨r, hr, e⟩ := List.any_eq_true.1 h1
   rw [← amx (by rw [ha.1, hb.1]), ← of_decide_eq_true e]
   exact hr
theorem Ch.has (h : Ch n.toNat p m l0 l σ) (hT : tok n l = true) (hl0 : ∀ r, r ∈ l0 → r.length = n.toNat) (hn : dh l p m = none) : (∀ x y, LE n.toNat p m l0 x y → σ x = σ y) ∧ ∀ r, LR n.toNat p m l0 r → r.map σ ∈ l := by
 have hm := Ch.mdl (p := p) (m := m) hT hn σ
 have hl : ∀ r, r ∈ l0 → r.length = n.toNat ∧ r.map σ ∈ l := fun r hr => ⟨hl0 r hr, h.img r hr⟩
 exact ⟨fun x y e => e _ _ hm hl, fun r e => (e _ _ hm hl).2⟩
theorem a5r {f : Int → Int} : ∀ {r : Rw}, (∀ z, z ∈ r → f z = z) → r.map f = r
 | [], _ => rfl
 | z :: r, h => by rw [List.map_cons, h z (by simp), a5r fun y hy => h y (by simp [hy])]
theorem Ch.mem (h : Ch n.toNat p m l0 l σ) (hT : tok n l = true) (hl0 : ∀ r, r ∈ l0 → r.length = n.toNat) (hn : dh l p m = none) {r : Rw} : r ∈ l ↔ LR n.toNat p m l0 r ∧ r.map σ = r := by
 constructor
 · intro hr
   exact ⟨h.rows r hr, a5r (h.fix r hr)⟩
 · rintro ⟨h1, h2⟩
   rw [← h2]
   exact (h.has hT hl0 hn).2 r h1
end
end Go.Hx
end
section
namespace Go.Hx
def ayl : List (List Int) → List Rw
 | [] => [[]]
 | c :: cs => c.flatMap fun z => (ayl cs).map fun r => z :: r
section
variable {N : Nat} {p m : List Fd} {l0 l : List Rw}
theorem aru {a b : Rw} {s : AS} {i : Nat} (h : i < b.length) : (d8 a b s).getD i default = if cu s (i : Int) = true then a.getD i default else b.getD i default := by
 unfold d8
 rw [List.getD_eq_getElem?_getD, List.getElem?_map, List.getElem?_range h]
 rfl
theorem aoe (C : Nat → List Int) (hd : ∀ i j z, z ∈ C i → z ∈ C j → i = j) : Mdl N p m (fun x y => x = y ∨ ∃ i, x ∈ C i ∧ y ∈ C i) (fun r => r.length = N ∧ ∀ i, i < N → r.getD i default ∈ C i) where
 refl _ := .inl rfl
 symm h := by
  rcases h with h | ⟨i, h, k⟩
  · exact .inl h.symm
  · exact .inr ⟨i, k, h⟩
 trans h h2 := by
  rcases h with h | ⟨i, h, k⟩
  · rw [h]; exact h2
  · rcases h2 with h2 | ⟨j, h2, k2⟩
    · rw [← h2]; exact .inr ⟨i, h, k⟩
    · have := hd i j _ k h2
      subst this
      exact .inr ⟨i, h, k2⟩
 len h := h.1
 cong h e h2 := ⟨e.trans h.1, fun i hi => by
  have h3 := h.2 i hi
  rcases h2 i (by rw [h.1]; exact hi) with h4 | ⟨j, h4, h5⟩
  · rw [← h4]; exact h3
  · have := hd i j _ h3 h4
    subst this
    exact h5⟩
 fd _ a b ha hb _ := fun i hi _ => .inr ⟨i, ha.2 i (by rw [← ha.1]; exact hi), hb.2 i (by rw [← ha.1]; exact hi)⟩
 mv _ a b ha hb _ := ⟨(kj _ _ _).trans hb.1, fun i hi => by
  rw [aru (by rw [hb.1]; exact hi)]
  split
  · exact ha.2 i hi
  · exact hb.2 i hi⟩
def ay3 (N : Nat) (p m : List Fd) (l0 : List Rw) : Prop := ∀ l, kx l → (∀ r, r ∈ l → LR N p m l0 r) → l.length ≤ 256
end
section
variable {p m : List Fd} {l0 l : List Rw} {n : Int} {σ : Int → Int}
theorem aep {s : St} (h : tw l p m s) : axc l p m s := by
 obtain ⟨h1, h2, h3⟩ := h
 refine ⟨h1, h2, fun e => ?_, fun e => ?_⟩
 · rcases h3 with ⟨_, h, _⟩ | ⟨h, _⟩
   · exact h
   · rw [e] at h; cases h
 · rcases h3 with ⟨h, _⟩ | ⟨_, h, _⟩
   · rw [e] at h; cases h
   · exact h
theorem Ch.code (h0 : tok n l0 = true) (hS : ay3 n.toNat p m l0) (hp : p.all (inU n) = true) (hT : tok n l = true) (h : Ch n.toNat p m l0 l σ) {s : St} (hs : tw l p m s) : (dg n l p m s).2.2 = 0 := by
 rcases abn hT hp hs with e | ⟨l', e, _⟩
 · obtain ⟨mu, i, a, b⟩ := s
   obtain ⟨ha, hb, hs | hs⟩ := hs
   · obtain ⟨h1, h2, h3⟩ := hs
     cases h1
     have h4 : dg n l p m (false, i, a, b) = fdE n l a b (p.getD i default) := rfl
     have hg := (agj hT (List.all_eq_true.1 hp _ (d6 h2)) ha hb h3).1
     have hg : fdE n l a b (p.getD i default) = (n, fdL l a b (p.getD i default), 0) := hg
     rw [h4, hg] at e ⊢
   · obtain ⟨h1, h2, h3⟩ := hs
     cases h1
     have h4 : dg n l p m (true, i, a, b) = mvE n l a b (m.getD i default) := rfl
     have h5 : dx l (m.getD i default) a b = true := h3
     unfold dx at h5
     rw [Bool.and_eq_true] at h5
     have h6 : mvE n l a b (m.getD i default) = od n l (d8 (l.getD a default) (l.getD b default) ((m.getD i default).lhs ||| (m.getD i default).rhs)) := if_pos h5.1
     have hl0 : ∀ r, r ∈ l0 → r.length = n.toNat := fun r hr => (qz h0 r hr).1
     have h7 := hS (ay (l ++ [d8 (l.getD a default) (l.getD b default) ((m.getD i default).lhs ||| (m.getD i default).rhs)])) (fg _) fun r hr => by
      rcases List.mem_append.1 (ey.1 hr) with h8 | h8
      · exact h.rows r h8
      · rw [List.mem_singleton.1 h8]
        exact (a0a hl0).mv (d6 h2) (h.rows _ (d6 ha)) (h.rows _ (d6 hb)) (ag3 hl0 h5.1)
     rw [h4, h6]
     unfold od
     rw [if_neg (by omega)]
 · rw [e]
def TrZ (n : Int) (p m : List Fd) (lend : List Rw) : List Rw → List St → Prop
 | l, [] => l = lend
 | l, s :: r => tok n l = true ∧ tw l p m s ∧ ∃ l', dg n l p m s = (n, l', 0) ∧ ¬ l' = l ∧ TrZ n p m lend l' r
end
def stC (n : Int) (ps : List AS) (c : Nat) : List Int := if c < n.toNat then (List.range ps.length).map fun i => stV n i (ps.getD i default) c else []
section
variable {n : Int} {ps : List AS} {p m : List Fd}
theorem as4 (h0 : 0 ≤ n) {i c : Nat} {q : AS} (hc : c < n.toNat) : stV n i q c % n = (c : Int) := by
 unfold stV
 split
 · exact Int.emod_eq_of_lt (by omega) (by omega)
 · have e : n + (i : Int) * n + (c : Int) = (c : Int) + n * (1 + (i : Int)) := by rw [Int.mul_add, Int.mul_one, Int.mul_comm (i : Int) n]; omega
   rw [e, Int.add_mul_emod_self_left]
   exact Int.emod_eq_of_lt (by omega) (by omega)
theorem a58 (h0 : 0 ≤ n) {c : Nat} {z : Int} (h : z ∈ stC n ps c) : c < n.toNat ∧ z % n = (c : Int) := by
 unfold stC at h
 split at h
 · rename_i hc
   obtain ⟨i, _, rfl⟩ := List.mem_map.1 h
   exact ⟨hc, as4 h0 hc⟩
 · simp at h
theorem asb (h0 : 0 ≤ n) : ∀ i j z, z ∈ stC n ps i → z ∈ stC n ps j → i = j := fun i j z h k => by
 have h1 := (a58 h0 h).2
 have h2 := (a58 h0 k).2
 omega
theorem a38 {r : Rw} (hr : r ∈ bi n ps) : r.length = n.toNat ∧ ∀ i, i < n.toNat → r.getD i default ∈ stC n ps i := by
 unfold bi at hr
 obtain ⟨k, hk, rfl⟩ := List.mem_map.1 hr
 refine ⟨a5s _ _ _, fun i hi => ?_⟩
 rw [aby hi]
 unfold stC
 rw [if_pos hi]
 exact List.mem_map.2 ⟨k, hk, rfl⟩
end
end Go.Hx
end
section
namespace Go.Hx
section
variable {n : Int} {ps : List AS} {p m : List Fd} {l l0 : List Rw} {σ : Int → Int}
theorem aw8 {N : Nat} {l l' : List Rw} (h : ∀ r, r ∈ l ↔ r ∈ l') {r : Rw} : LR N p m l r ↔ LR N p m l' r :=
 ⟨fun k E R hm hl => k E R hm fun r hr => hl r ((h r).1 hr), fun k E R hm hl => k E R hm fun r hr => hl r ((h r).2 hr)⟩
theorem ahx (h0 : 0 ≤ n) {c : Nat} {z : Int} (h : z ∈ stC n ps c) : z = (c : Int) ∨ n ≤ z := by
 unfold stC at h
 split at h
 · obtain ⟨i, _, rfl⟩ := List.mem_map.1 h
   unfold stV
   split
   · exact .inl rfl
   · right
     have := Int.mul_nonneg (show (0 : Int) ≤ (i : Int) by omega) h0
     omega
 · simp at h
theorem Ch.first (h0 : 0 ≤ n) (h : Ch n.toNat p m (ay (bi n ps)) l σ) : (d5 n).map σ = d5 n := by
 refine a5r fun z hz => ?_
 unfold d5 at hz
 obtain ⟨c, hc, rfl⟩ := List.mem_map.1 hz
 have hc := List.mem_range.1 hc
 have h1 := h.sym (c : Int) _ _ (aoe (stC n ps) (asb h0)) fun r hr => a38 (ey.1 hr)
 rcases h1 with h1 | ⟨i, h1, h2⟩
 · exact h1.symm
 · have h3 := (a58 h0 h1).2
   have h4 := Int.emod_eq_of_lt (a := (c : Int)) (b := n) (by omega) (by omega)
   have h5 : i = c := by omega
   subst h5
   have h6 := h.le (i : Int)
   rcases ahx h0 h2 with h7 | h7
   · exact h7
   · omega
theorem yy {r : Rw} : (l.any fun x => decide (x = r)) = decide (r ∈ l) := by
 rw [Bool.eq_iff_iff, List.any_eq_true, decide_eq_true_iff]
 constructor
 · rintro ⟨x, hx, e⟩
   rw [← of_decide_eq_true e]; exact hx
 · intro h
   exact ⟨r, h, decide_eq_true rfl⟩
def swI (n z : Int) : Int := if n ≤ z ∧ z < 2 * n then z + n else if 2 * n ≤ z ∧ z < 3 * n then z - n else z
abbrev b13 (n : Int) (x : Fd) : Fd := ⟨x.lhs, b8 n &&& ~~~(x.lhs ||| x.rhs)⟩
end
end Go.Hx
end
section
namespace Go.Hx
section
variable {n : Int} {p m : List Fd} {l0 l : List Rw} {σ : Int → Int}
theorem amz (hT : tok n l = true) (hp : p.all (inU n) = true) (hm : m = []) {s : St} (hs : tw l p m s) : (dg n l p m s).2.2 = 0 := by
 obtain ⟨mu, i, a, b⟩ := s
 obtain ⟨ha, hb, hs | hs⟩ := hs
 · obtain ⟨h1, h2, h3⟩ := hs
   cases h1
   have h4 : dg n l p m (false, i, a, b) = fdE n l a b (p.getD i default) := rfl
   have hg : fdE n l a b (p.getD i default) = (n, fdL l a b (p.getD i default), 0) := (agj hT (List.all_eq_true.1 hp _ (d6 h2)) ha hb h3).1
   rw [h4, hg]
 · obtain ⟨_, h2, _⟩ := hs
   subst hm
   exact absurd h2 (Nat.not_lt_zero _)
theorem ahl (hl0 : ∀ r, r ∈ l0 → r.length = n.toNat) (hp : p.all (inU n) = true) (Z : List Int) : ∀ (F : Nat) (l : List Rw) (acc : List St) (σ : Int → Int), tok n l = true → Ch n.toNat p m l0 l σ → Cov Z l → muC Z l < F →
 (fe F n l p m acc = ([], (0, []), 3) ∧ ¬ m = []) ∨ ∃ sts lend σ', fe F n l p m acc = (acc ++ sts, (n, lend), 0) ∧ Ch n.toNat p m l0 lend σ' ∧ tok n lend = true ∧ dh lend p m = none ∧ TrZ n p m lend l sts := by
 intro F
 induction F with
 | zero => intro _ _ _ _ _ _ h; exact absurd h (Nat.not_lt_zero _)
 | succ F ih =>
  intro l acc σ hT hC hZ hF
  cases hn : dh l p m with
  | none => exact .inr ⟨[], l, σ, by rw [a4l (by omega) hn, List.append_nil], hC, hT, hn, rfl⟩
  | some s =>
   have hs := a00 hn
   rcases abn hT hp hs with e | ⟨l', e, hT', h3⟩
   · left
     refine ⟨a3i (by omega) hn e (by decide), fun hm => ?_⟩
     have := amz hT hp hm hs
     rw [e] at this
     exact absurd this (by decide)
   · obtain ⟨h4, h5⟩ := h3 Z hZ
     obtain ⟨_, σ', hC'⟩ := Ch.app hl0 hT hp hC (aep hs) (by rw [e])
     rw [e] at hC'
     rcases ih l' (acc ++ [s]) σ' hT' hC' h4 (by omega) with ⟨q, q0⟩ | ⟨sts, lend, σ2, q1, q2, q3, q4, q5⟩
     · left
       exact ⟨by rw [ui (by omega) hn e, Nat.add_sub_cancel, q], q0⟩
     · right
       refine ⟨s :: sts, lend, σ2, ?_, q2, q3, q4, hT, hs, l', e, fun e => ?_, q5⟩
       · rw [ui (by omega) hn e, Nat.add_sub_cancel, q1, List.append_assoc]
         rfl
       · subst e
         omega
theorem ajb (hT : tok n l = true) (hb : ck n p m = 0) : (fu FU n l p m = ([], (0, []), 3) ∧ ¬ m = []) ∨ ∃ sts lend σ, fu FU n l p m = (sts, (n, lend), 0) ∧ Ch n.toNat p m l lend σ ∧ tok n lend = true ∧ dh lend p m = none ∧ TrZ n p m lend l sts := by
 have hck : ckE n l p m = 0 := (if_pos hT).trans hb
 rw [oh hck]
 rcases ahl (fun r hr => (qz hT r hr).1) (qi hb).2.2.2.1 l.flatten FU l [] id hT Ch.start (a99 l) (a95 hT) with h | ⟨sts, lend, σ', q1, q⟩
 · exact .inl h
 · exact .inr ⟨sts, lend, σ', by rw [q1, List.nil_append], q⟩
def trL (n : Int) (p m : List Fd) : List Rw → List St → List (List Rw)
 | l, [] => [l]
 | l, s :: r => l :: trL n p m (dg n l p m s).2.1 r
theorem a6n : ∀ {sts : List St} {l : List Rw}, (trL n p m l sts).length = sts.length + 1
 | [], _ => rfl
 | s :: r, l => by unfold trL; rw [List.length_cons, a6n, List.length_cons]
theorem abg : ∀ {sts : List St} {l lend : List Rw}, TrZ n p m lend l sts → lend ∈ trL n p m l sts
 | [], l, lend, h => by
  have h : l = lend := h
  subst h
  simp [trL]
 | s :: r, l, lend, h => by
  obtain ⟨_, _, l', e, _, h⟩ := h
  unfold trL
  rw [e]
  exact List.mem_cons_of_mem _ (abg h)
theorem ah3 (hl0 : ∀ r, r ∈ l0 → r.length = n.toNat) (hp : p.all (inU n) = true) : ∀ {sts : List St} {l lend : List Rw} {σ : Int → Int}, TrZ n p m lend l sts → tok n lend = true → Ch n.toNat p m l0 l σ → ∀ t, t ∈ trL n p m l sts → ∃ σ, Ch n.toNat p m l0 t σ
 | [], l, lend, σ, h, _, hC, t, ht => by
  rw [List.mem_singleton.1 (show t ∈ [l] from ht)]
  exact ⟨σ, hC⟩
 | s :: r, l, lend, σ, h, hTe, hC, t, ht => by
  obtain ⟨hT, hs, l', e, _, h⟩ := h
  unfold trL at ht
  rw [e] at ht
  rcases List.mem_cons.1 ht with rfl | ht
  · exact ⟨σ, hC⟩
  · obtain ⟨_, σ', hC'⟩ := Ch.app hl0 hT hp hC (aep hs) (by rw [e])
    rw [e] at hC'
    exact ah3 hl0 hp h hTe hC' t ht
end
section
variable {n : Int} {ps : List AS} {p m : List Fd}
theorem a4q (h0 : 0 ≤ n) (h16 : n ≤ 16) (hk : ps.length ≤ 64) : tok n (ay (bi n ps)) = true := by
 refine yo h0 h16 ?_ fun r hr => ?_
 · have := sy (bi n ps)
   rw [lh] at this
   omega
 · obtain ⟨h1, h2⟩ := a38 hr
   refine ⟨h1, fun z hz => ?_⟩
   obtain ⟨i, hi, rfl⟩ := nu hz
   rcases ahx h0 (h2 i (by omega)) with h3 | h3 <;> omega
theorem a7d (hk : ps.length ≤ 64) (hb : ck n p m = 0) :
 (fu FU n (ay (bi n ps)) p m = ([], (0, []), 3) ∧ ¬ m = []) ∨ ∃ sts lend, fu FU n (ay (bi n ps)) p m = (sts, (n, lend), 0) ∧ (d5 n ∈ lend ↔ LR n.toNat p m (bi n ps) (d5 n)) ∧
  TrZ n p m lend (ay (bi n ps)) sts ∧ tok n lend = true ∧ ((∃ t, t ∈ trL n p m (ay (bi n ps)) sts ∧ d5 n ∈ t) ↔ d5 n ∈ lend) := by
 obtain ⟨h0, h16, _, hp, _⟩ := qi hb
 have hT := a4q h0 h16 hk
 have hl0 : ∀ r, r ∈ ay (bi n ps) → r.length = n.toNat := fun r hr => (qz hT r hr).1
 rcases ajb hT hb with h | ⟨sts, lend, σ, h1, h2, h3, h4, h5⟩
 · exact .inl h
 · right
   have hf : d5 n ∈ lend ↔ LR n.toNat p m (ay (bi n ps)) (d5 n) := by
    rw [h2.mem h3 hl0 h4]
    exact ⟨fun h => h.1, fun h => ⟨h, h2.first h0⟩⟩
   refine ⟨sts, lend, h1, by rw [hf, aw8 (l' := bi n ps) fun r => ey], h5, h3, ?_⟩
   constructor
   · rintro ⟨t, ht, hft⟩
     obtain ⟨σ', hC⟩ := ah3 hl0 hp h5 h3 Ch.start t ht
     exact hf.2 (hC.rows _ hft)
   · intro h
     exact ⟨lend, abg h5, h⟩
end
end Go.Hx
end
section
namespace Go.Hx
section
variable {n : Int} {l : List Fd}
theorem aso (h : az n l = 0) : ∀ f ∈ l, sub f.lhs (b8 n) ∧ sub f.rhs (b8 n) := fun f hf => by
 obtain ⟨h0, h1, _, h3⟩ := d9 h
 exact (mq h0 h1).1 (List.all_eq_true.1 h3 f hf)
theorem ac5 (h : az n l = 0) : l6 l (b8 n) := fun f hf _ => (aso h f hf).2
theorem aae (h : az n l = 0) {x : AS} (hx : sub x (b8 n)) : sub (clo l x) (b8 n) := p8 (ac5 h) hx
end
theorem y6 {α β : Type} [Inhabited α] {f : α → β} {l : List α} {i : Nat} (h : i < l.length) : (l.take (i + 1)).map f = (l.take i).map f ++ [f (l.getD i default)] := by
 rw [br h, List.map_append]
 rfl
structure Dps where
 n : BitVec 8
 l : List Dp
deriving Inhabited
def Dps.num (d : Dps) : Int := ((d.n.toNat % 7 : Nat) : Int)
def Dps.fds (d : Dps) : List Fd := d.l.map (Dp.fd d.num)
def Dps.c (d : Dps) : Nat → PV
 | 0 => .raw (.int .u8 (d.n.toNat : Int))
 | 1 => dpl d.l
 | _ => .any
abbrev Dps.pc (d : Dps) : PC := .agg [d.c 0, d.c 1]
end Go.Hx
end
section
namespace Go.Hx
def noA (s : AS) (a : Nat) : AS := s &&& ~~~((1 : AS) <<< a)
theorem a8q (s : AS) (a : Nat) {b : Int} (h : b.toNat = a) : ca .andNot .u32 (asI s) (IntKind.wrap .u32 (1 * 2 ^ (min b.toNat 32))) = asI (noA s a) := by
 rw [h]
 exact a02 s a
def aiz (n : Int) (l : List Fd) (s : AS) (a : Nat) : AS := if gr n l (noA s a) = true then noA s a else s
def l5 (n : Int) (l : List Fd) (s : AS) (k : Nat) : AS := (List.range k).foldl (fun s j => aiz n l s (n.toNat - 1 - j)) s
theorem a3r (n : Int) (l : List Fd) (s : AS) (k : Nat) : l5 n l s (k + 1) = aiz n l (l5 n l s k) (n.toNat - 1 - k) := by
 unfold l5
 rw [List.range_succ, List.foldl_append]
 rfl
theorem adz {n : Int} {l : List Fd} {s : AS} {k : Nat} (h : gr n l (noA (l5 n l s k) (n.toNat - 1 - k)) = true) : l5 n l s (k + 1) = noA (l5 n l s k) (n.toNat - 1 - k) := by
 rw [a3r]; exact if_pos h
theorem adp {n : Int} {l : List Fd} {s : AS} {k : Nat} (h : gr n l (noA (l5 n l s k) (n.toNat - 1 - k)) = false) : l5 n l s (k + 1) = l5 n l s k := by
 rw [a3r]; exact if_neg (by rw [h]; decide)
def rkE (n : Int) (l : List Fd) (s : AS) : Int := if az n l = 0 then (if gr n l s = true then 0 else 1) else az n l
def rkS (n : Int) (l : List Fd) (s : AS) : AS := if rkE n l s = 0 then l5 n l s n.toNat else 0
theorem azi {n : Int} {l : List Fd} {s : AS} (h : ¬ az n l = 0) : rkS n l s = 0 ∧ rkE n l s = az n l := by
 have e : rkE n l s = az n l := if_neg h
 exact ⟨if_neg (by rw [e]; exact h), e⟩
theorem azn {n : Int} {l : List Fd} {s : AS} (h : az n l = 0) (h2 : gr n l s = false) : rkS n l s = 0 ∧ rkE n l s = 1 := by
 have e : rkE n l s = 1 := by unfold rkE; rw [if_pos h, if_neg (by rw [h2]; decide)]
 exact ⟨if_neg (by rw [e]; decide), e⟩
theorem awv {n : Int} {l : List Fd} {s : AS} (h : az n l = 0) (h2 : gr n l s = true) : rkS n l s = l5 n l s n.toNat ∧ rkE n l s = 0 := by
 have e : rkE n l s = 0 := by unfold rkE; rw [if_pos h, if_pos h2]
 exact ⟨if_pos e, e⟩
def oo (n : Int) (l : List Fd) (s : AS) : Bool := gr n l s && (List.range n.toNat).all fun a => !(s.getLsbD a && gr n l (noA s a))
def jf (n : Int) (l : List Fd) (i : Nat) : List AS := ((List.range i).map (BitVec.ofNat 32)).filter (oo n l)
theorem mr {n : Int} {l : List Fd} {i : Nat} (h : oo n l (BitVec.ofNat 32 i) = true) : jf n l (i + 1) = jf n l i ++ [BitVec.ofNat 32 i] := by
 unfold jf
 rw [List.range_succ, List.map_append, List.filter_append]
 simp only [List.map_cons, List.map_nil, List.filter_cons, h, if_true, List.filter_nil]
theorem mo {n : Int} {l : List Fd} {i : Nat} (h : oo n l (BitVec.ofNat 32 i) = false) : jf n l (i + 1) = jf n l i := by
 unfold jf
 rw [List.range_succ, List.map_append, List.filter_append]
 simp only [List.map_cons, List.map_nil, List.filter_cons, h, Bool.false_eq_true, if_false, List.filter_nil, List.append_nil]
theorem a7a (n : Int) (l : List Fd) (i : Nat) : (jf n l i).length ≤ i := by
 unfold jf
 exact Nat.le_trans (List.length_filter_le _ _) (by rw [List.length_map, List.length_range]; exact Nat.le_refl _)
def d4 (n : Int) (l : List Fd) : List AS := if az n l = 0 then ord (jf n l (2 ^ n.toNat)) else []
theorem ae1 {n : Int} {l : List Fd} (h : az n l = 0) : d4 n l = ord (jf n l (2 ^ n.toNat)) := if_pos h
theorem atf {n : Int} {l : List Fd} (h : ¬ az n l = 0) : d4 n l = [] := if_neg h
theorem aut {n : Int} (h0 : 0 ≤ n) (h1 : n ≤ 16) : asI (b8 n) + 1 = (2 ^ n.toNat : Nat) ∧ 2 ^ n.toNat ≤ 65536 := by
 have h2 : 2 ^ n.toNat ≤ 2 ^ 16 := Nat.pow_le_pow_right (by omega) (by omega)
 have h3 : 0 < 2 ^ n.toNat := Nat.two_pow_pos _
 unfold b8 asI
 rw [a1m (Nat.min_le_right _ _), Nat.min_eq_left (by omega)]
 omega
end Go.Hx
end
section
namespace Go.Hx
open Go.Proofs
set_option maxRecDepth 100000
theorem axi : goodFn Tryz.prog 89 := ⟨Tryz.f89, Tryz.func89, by kernel_rfl, by kernel_rfl⟩
theorem ast (n : Int) (l : List Fd) (s : AS) : ah Tryz.prog 89 [pI n, pP (fdl l), pA s] (ap [pA (rkS n l s), pI (rkE n l s)]) := by
 refine ag (nt := 38) af Tryz.func89 rfl rfl l9 ?_; refine sx7 ?_; (iterate 2 refine qy ?_); refine a6 ?_; refine a7 ?_; refine sx7 ?_; (iterate 2 refine qy ?_)
 refine rc rfl rfl rfl rfl rfl rfl so (sh n l) (CoL.refl _) rfl rfl ?_; refine qy ?_; refine a6 ?_; refine sx7 ?_; (iterate 2 refine qy ?_); refine a6 ?_; refine a8 _ rfl (fun r0 => ?_) (fun r0 => ?_)
 ·
  have h0 := r0
  have h0 := of_decide_eq_false (av h0)
  try simp only [ty] at h0
  refine sx7 ?_; (iterate 3 refine qy ?_); refine a6 ?_; refine am ?_; refine ⟨.inr rfl, ?_⟩
  have he := azi (s := s) h0
  exact f9 rfl rfl (⟨cci (congrArg asI he.1.symm), cci he.2.symm, trivial⟩)
 ·
  have h0 := r0
  have h0 := of_decide_eq_true (au h0)
  try simp only [ty] at h0
  refine aa ?_; refine a7 ?_; refine sx7 ?_; (iterate 3 refine qy ?_); refine rc rfl rfl rfl rfl rfl rfl aa7 (af1 n l s) (CoL.refl _) rfl rfl ?_; refine qy ?_; refine a6 ?_
  refine a8 _ rfl (fun r1 => ?_) (fun r1 => ?_)
  ·
   have h1 := r1
   have h1 := av h1
   refine sx7 ?_; (iterate 2 refine qy ?_); refine a6 ?_; refine am ?_; refine ⟨.inr rfl, ?_⟩
   have he := azn h0 (by assumption)
   exact f9 rfl rfl (⟨cci (congrArg asI he.1.symm), cci he.2.symm, trivial⟩)
  ·
   have h1 := r1
   have h1 := au h1
   refine aa ?_; (iterate 2 refine a7 ?_)
   have hv := d9 h0
   refine gy ?_; (iterate 3 refine qy ?_); refine a6 ?_; refine ae ?_
   refine ai (ι := Nat) ⟨[(0, some _), (1, some _)], []⟩ ⟨⟨c9, c9, trivial⟩, trivial⟩ (fun k => ⟨[(2, some (vA (l5 n l s k))), (9, some (vI (n - 1 - (k : Int))))], []⟩) (fun k => k ≤ n.toNat) (fun k => n.toNat - k) (0) (Nat.zero_le _) ⟨⟨zy, ⟨_, rfl, (coi (by omega))⟩, trivial⟩, trivial⟩ ?_
   rintro k hk
   refine a7 ?_; refine sx7 ?_; (iterate 2 refine qy ?_); refine a6 ?_; refine a8 _ rfl (fun r2 => ?_) (fun r2 => ?_)
   ·
    have h2 := of_decide_eq_true r2
    try simp only [ty] at h2
    refine aa ?_; refine a7 ?_; refine ae ?_; refine sx7 ?_; (iterate 5 refine qy ?_); refine a6 ?_; refine sx7 ?_; (iterate 3 refine qy ?_)
    refine rc rfl rfl rfl rfl rfl rfl aa7 (af1 n l (noA (l5 n l s k) (n.toNat - 1 - k))) (⟨CoC.refl _, CoC.refl _, cci (a8q _ _ (by omega)), trivial⟩) rfl rfl ?_; refine a6 ?_
    refine a8 _ rfl (fun r3 => ?_) (fun r3 => ?_)
    ·
     have h3 := r3
     refine gy ?_; (iterate 2 refine qy ?_); refine a6 ?_; refine gy ?_; (iterate 3 refine qy ?_); refine a6 ?_
     first | (refine ⟨k + 1, ?_, ?_, ?_⟩
              · show k + 1 ≤ _; omega
              · first | omega | (dsimp only; omega)
              · exact ⟨⟨⟨_, rfl, (c5 ((a8q _ (n.toNat - 1 - k) (by omega)).trans (congrArg asI (adz (by assumption)).symm)))⟩, ⟨_, rfl, (coi (by omega))⟩, c9, c9, trivial⟩, trivial⟩)
           | (refine ⟨k + 1, ?_, ?_, ?_⟩
              · show k + 1 ≤ _; omega
              · first | omega | (dsimp only; omega)
              · exact ⟨⟨⟨_, rfl, (c5 (by rw [adp (by assumption)]))⟩, ⟨_, rfl, (coi (by omega))⟩, c9, c9, trivial⟩, trivial⟩)
    ·
     have h3 := r3
     refine aa ?_; refine gy ?_; (iterate 3 refine qy ?_); refine a6 ?_
     first | (refine ⟨k + 1, ?_, ?_, ?_⟩
              · show k + 1 ≤ _; omega
              · first | omega | (dsimp only; omega)
              · exact ⟨⟨⟨_, rfl, (c5 ((a8q _ (n.toNat - 1 - k) (by omega)).trans (congrArg asI (adz (by assumption)).symm)))⟩, ⟨_, rfl, (coi (by omega))⟩, c9, c9, trivial⟩, trivial⟩)
           | (refine ⟨k + 1, ?_, ?_, ?_⟩
              · show k + 1 ≤ _; omega
              · first | omega | (dsimp only; omega)
              · exact ⟨⟨⟨_, rfl, (c5 (by rw [adp (by assumption)]))⟩, ⟨_, rfl, (coi (by omega))⟩, c9, c9, trivial⟩, trivial⟩)
   ·
    have h2 := of_decide_eq_false r2
    try simp only [ty] at h2
    refine ak ?_; refine sx7 ?_; (iterate 3 refine qy ?_); refine a6 ?_; refine am ?_; refine ⟨.inr rfl, ?_⟩
    have he := awv h0 (by assumption)
    obtain rfl : k = n.toNat := by omega
    exact f9 rfl rfl (⟨cci (congrArg asI he.1.symm), cci he.2.symm, trivial⟩)
end Go.Hx
end
section
namespace Go.Hx
theorem apj {n : Int} (h0 : 0 ≤ n) (h1 : n ≤ 16) : IntKind.wrap .i64 (1 * 2 ^ min n.toNat IntKind.i64.bits) = ((2 ^ n.toNat : Nat) : Int) := by
 have h2 : 2 ^ n.toNat ≤ 2 ^ 16 := Nat.pow_le_pow_right (by omega) (by omega)
 have e : (1 : Int) * 2 ^ min n.toNat IntKind.i64.bits = ((2 ^ n.toNat : Nat) : Int) := by
  rw [show min n.toNat IntKind.i64.bits = n.toNat from Nat.min_eq_left (by show n.toNat ≤ 64; omega), Int.natCast_pow, Int.one_mul]
  rfl
 rw [e]
 have h3 : ((2 ^ n.toNat : Nat) : Int) ≤ 65536 := by omega
 have h4 : 0 ≤ ((2 ^ n.toNat : Nat) : Int) := Int.natCast_nonneg _
 generalize ((2 ^ n.toNat : Nat) : Int) = z at *
 exact kf (by simp only [inR, nq, pn]; omega)
theorem avo {m : Nat} (h : m ≤ 65536) : 0 ≤ (m : Int) ∧ (m : Int) ≤ m ∧ (m : Int) ≤ 9223372036854775807 ∧ ((1 : Nat) : Int) * m ≤ 281474976710656 := by omega
def bC : Bool → Nat → PV := fun b _ => .raw (.bool b)
def nz (n : Int) (l : List Fd) (k : Nat) : Bool := decide (clo l (BitVec.ofNat 32 k) = b8 n)
def s7 (n : Int) (l : List Fd) (i : Nat) : List Bool := (List.range (2 ^ n.toNat)).map fun k => decide (k < i) && nz n l k
theorem mf (n : Int) (l : List Fd) (i : Nat) : (s7 n l i).length = 2 ^ n.toNat := by unfold s7; rw [List.length_map, List.length_range]
theorem ww {n : Int} {l : List Fd} {i k : Nat} (h : k < 2 ^ n.toNat) : (s7 n l i)[k]? = some (decide (k < i) && nz n l k) := by
 unfold s7
 rw [List.getElem?_map, List.getElem?_range h]
 rfl
theorem an5 {n : Int} {l : List Fd} {i : Nat} (h : i < 2 ^ n.toNat) : (s7 n l i).set i (nz n l i) = s7 n l (i + 1) := by
 apply List.ext_getElem?
 intro k
 rw [List.getElem?_set, mf]
 by_cases hk : k < 2 ^ n.toNat
 · rw [ww hk, ww hk]
   by_cases e : i = k
   · subst e
     rw [if_pos rfl, if_pos h, decide_eq_true (Nat.lt_succ_self _)]
     rfl
   · rw [if_neg e]
     congr 2
     exact decide_eq_decide.2 (by omega)
 · have e : i ≠ k := by omega
   rw [if_neg e, List.getElem?_eq_none (by rw [mf]; omega), List.getElem?_eq_none (by rw [mf]; omega)]
theorem aho {n : Int} {l : List Fd} {m : Nat} {f : Nat → Nat → PV} {e : TypeId} (hm : m = 2 ^ n.toNat) (hf : ∀ i, f i 0 = .raw (.bool false)) : CoO (.arr true 1 e m f) (.arr true 1 e (2 ^ n.toNat) (lf bC (s7 n l 0))) := by
 subst hm
 refine ⟨fun h => h, rfl, rfl, rfl, fun i j hi hj => CoP.of_eq ?_⟩
 have hj : j < 1 := hj
 have hi : i < 2 ^ n.toNat := hi
 obtain rfl : j = 0 := by omega
 rw [hf]
 unfold lf
 rw [List.getD_eq_getElem?_getD, ww hi]
 rfl
def rz (n : Int) (l : List Fd) : List Bool := s7 n l (2 ^ n.toNat)
theorem agx {n : Int} {l : List Fd} {i k : Nat} {e : TypeId} {x : PV} (h : i < 2 ^ n.toNat) (hk : k = i) (hx : x = bC (nz n l i) 0) : CoO (.arr true 1 e (2 ^ n.toNat) (ep (lf bC (s7 n l i)) k 0 [x])) (.arr true 1 e (2 ^ n.toNat) (lf bC (s7 n l (i + 1)))) := by
 rw [← an5 h]
 exact a6a (fun h => h) (mf _ _ _).symm hk (by rw [mf]; exact h) hx
theorem a2h {n : Int} {l : List Fd} {k : Nat} (h : k < 2 ^ n.toNat) : (rz n l).getD k default = nz n l k := by
 unfold rz
 rw [List.getD_eq_getElem?_getD, ww h, decide_eq_true h]
 rfl
theorem an8 (n : Int) (l : List Fd) : (rz n l).length = 2 ^ n.toNat := mf _ _ _
end Go.Hx
end
section
namespace Go.Hx
open Go.Proofs
set_option maxRecDepth 100000
theorem aq5 : goodFn Tryz.prog 168 := ⟨Tryz.f168, Tryz.func168, by kernel_rfl, by kernel_rfl⟩
theorem aqn (n : Int) (l : List Fd) (h0n : 0 ≤ n) (h1n : n ≤ 16) : ah Tryz.prog 168 [pI n, pP (fdl l)] (ap [pP (psl 1 bC (rz n l))]) := by
 refine ag (nt := 27) af Tryz.func168 rfl rfl l9 ?_; refine sx7 ?_; refine qy ?_; refine a6 ?_; refine a7 ?_
 have hs := apj h0n h1n
 have hpw : 2 ^ n.toNat ≤ 2 ^ 16 := Nat.pow_le_pow_right (by omega) (by omega)
 refine gy ?_; (iterate 2 refine qy ?_); refine rm 0 rfl rfl rfl rfl rfl rfl ?_ (hp := (by rw [hs]; exact avo hpw)); refine qy ?_; refine a6 ?_; refine a7 ?_; refine sx7 ?_; (iterate 3 refine qy ?_); refine a6 ?_
 refine ae ?_
 refine ai (ι := Nat) ⟨[(0, some _), (1, some _)], []⟩ ⟨⟨c9, c9, trivial⟩, trivial⟩ (fun i => ⟨[(5, some (.v (.one (.ref 0 (2 ^ n.toNat))))), (11, some (vI (2 ^ n.toNat : Nat))), (12, some (vI i))], [(0, some (.arr true 1 4 (2 ^ n.toNat) (lf bC (s7 n l i))))]⟩) (fun i => i ≤ 2 ^ n.toNat) (fun i => 2 ^ n.toNat - i) (0) (Nat.zero_le _) ⟨⟨⟨_, rfl, (sq (by rw [hs]; rfl))⟩, ⟨_, rfl, (coi (by rw [hs]; rfl))⟩, zy, trivial⟩, ⟨⟨_, rfl, (aho (by rw [hs]; rfl) (fun _ => rfl))⟩, trivial⟩⟩ ?_
 rintro i hi
 refine sx7 ?_; refine qy ?_; refine a6 ?_; refine a7 ?_; refine a8 _ rfl (fun r0 => ?_) (fun r0 => ?_)
 ·
  have h0 := of_decide_eq_true r0
  try simp only [ty] at h0
  refine aa ?_; refine a7 ?_; refine ae ?_; refine sx7 ?_; (iterate 2 refine qy ?_); refine a6 ?_; refine gy ?_; (iterate 5 refine qy ?_)
  refine rc rfl rfl rfl rfl rfl rfl l7 (ng l (BitVec.ofNat 32 i)) (⟨CoC.refl _, cci (eq (by omega)), trivial⟩) rfl rfl ?_; refine qy ?_
  refine rc rfl rfl rfl rfl rfl rfl aeh (ak3 n h0n h1n) (CoL.refl _) rfl rfl ?_; (iterate 2 refine qy ?_); refine s9 ?_; refine a6 ?_; refine gy ?_; (iterate 2 refine qy ?_); refine a6 ?_; refine ⟨i + 1, ?_, ?_, ?_⟩
  · show i + 1 ≤ _; omega
  · first | omega | (dsimp only; omega)
  · exact ⟨⟨zy, zy, zy, c9, c9, trivial⟩, ⟨⟨_, rfl, (agx (by omega) rfl (by rw [a3g]; rfl))⟩, trivial⟩⟩
 ·
  have h0 := of_decide_eq_false r0
  try simp only [ty] at h0
  obtain rfl : i = 2 ^ n.toNat := by omega
  refine ak ?_; refine sx7 ?_; (iterate 2 refine qy ?_); refine a6 ?_; refine bq 4 rfl rfl rfl ?_
  exact hx8 rfl rfl rfl (⟨CoC.one (CoP.sl (mf _ _ _) (.inl rfl) (fun h => by cases h) (fun i j hi hj => CoP.refl _)), trivial⟩)
end Go.Hx
end
