/- A part of the proof: Cc1 Cc2 Cc3 Ls1 Cs24 V23 Cs26 Cs27 Cs28 Cs30 Cs31 Cs32 Cs33 Cs34 Cs35 Cs36 Cz1m Cs37 Cs40 Cs42 Ls2. -/
import Derived.Test.YtidophngianjiaaGreatDoor6x24
import Derived.Test.YtidophngianjiaaGreatDoor6x35
set_option linter.all false
section
namespace Go.Hx
def AgE (E : Int → Int → Prop) (a b : Rw) (s : AS) : Prop := ∀ i : Nat, i < a.length → ct s (i : Int) = true → E (a.getD i default) (b.getD i default)
structure Mdl (N : Nat) (p m : List Fd) (E : Int → Int → Prop) (R : Rw → Prop) : Prop where
 refl : ∀ x, E x x
 symm : ∀ {x y}, E x y → E y x
 trans : ∀ {x y z}, E x y → E y z → E x z
 len : ∀ {r}, R r → r.length = N
 cong : ∀ {r r' : Rw}, R r → r'.length = r.length → (∀ i, i < r.length → E (r.getD i default) (r'.getD i default)) → R r'
 fd : ∀ {x}, x ∈ p → ∀ {a b}, R a → R b → AgE E a b x.lhs → AgE E a b x.rhs
 mv : ∀ {x}, x ∈ m → ∀ {a b}, R a → R b → AgE E a b x.lhs → R (d6 a b (x.lhs ||| x.rhs))
def LE (N : Nat) (p m : List Fd) (l : List Rw) (x y : Int) : Prop := ∀ E R, Mdl N p m E R → (∀ r, r ∈ l → R r) → E x y
def LR (N : Nat) (p m : List Fd) (l : List Rw) (r : Rw) : Prop := ∀ E R, Mdl N p m E R → (∀ r, r ∈ l → R r) → R r
theorem apy (N : Nat) (p m : List Fd) : Mdl N p m (fun _ _ => True) (fun r => r.length = N) :=
 ⟨fun _ => trivial, fun _ => trivial, fun _ _ => trivial, fun h => h, fun h e _ => e.trans h, fun _ _ _ _ _ _ _ _ _ => trivial, fun _ a b _ hb _ => (kz _ _ _).trans hb⟩
theorem a0u {N : Nat} {p m : List Fd} {l : List Rw} (hl : ∀ r, r ∈ l → r.length = N) : Mdl N p m (LE N p m l) (LR N p m l) where
 refl x := fun E R h _ => h.refl x
 symm h := fun E R k kl => k.symm (h E R k kl)
 trans h h2 := fun E R k kl => k.trans (h E R k kl) (h2 E R k kl)
 len h := h _ _ (apy N p m) hl
 cong h e h2 := fun E R k kl => k.cong (h E R k kl) e fun i hi => h2 i hi E R k kl
 fd hx _ _ ha hb hl := fun i hi hs E R k kl => k.fd hx (ha E R k kl) (hb E R k kl) (fun j hj hh => hl j hj hh E R k kl) i hi hs
 mv hx _ _ ha hb hl := fun E R k kl => k.mv hx (ha E R k kl) (hb E R k kl) fun j hj hh => hl j hj hh E R k kl
structure Ch (N : Nat) (p m : List Fd) (l0 l : List Rw) (σ : Int → Int) : Prop where
 rows : ∀ r, r ∈ l → LR N p m l0 r
 sym : ∀ s, LE N p m l0 s (σ s)
 img : ∀ r, r ∈ l0 → r.map σ ∈ l
 fix : ∀ r, r ∈ l → ∀ z, z ∈ r → σ z = z
 le : ∀ s, σ s ≤ s
section
variable {N : Nat} {p m : List Fd} {l0 l l' : List Rw} {σ σ' : Int → Int} {n : Int}
theorem Ch.start : Ch N p m l0 l0 id := ⟨fun r hr E R _ hl => hl r hr, fun s E R k _ => k.refl s, fun r hr => by rw [List.map_id]; exact hr, fun _ _ _ _ => rfl, fun s => Int.le_refl s⟩
theorem Ch.congr (h : Ch N p m l0 l σ) (e : ∀ r, r ∈ l' ↔ r ∈ l) : Ch N p m l0 l' σ :=
 ⟨fun r hr => h.rows r ((e r).1 hr), h.sym, fun r hr => (e _).2 (h.img r hr), fun r hr => h.fix r ((e r).1 hr), h.le⟩
def lv (hi lo z : Int) : Int := if z = hi then lo else z
theorem ir {f : Int → Int} {r : Rw} {i : Nat} (h : i < r.length) : (r.map f).getD i default = f (r.getD i default) := by
 rw [List.getD_eq_getElem?_getD, List.getElem?_map, List.getElem?_eq_getElem h, List.getD_eq_getElem?_getD, List.getElem?_eq_getElem h]
 rfl
theorem Ch.sub (hl0 : ∀ r, r ∈ l0 → r.length = N) (h : Ch N p m l0 l σ) {hi lo : Int} (hE : LE N p m l0 hi lo) (hle : lo ≤ hi) (hin : ∃ r, r ∈ l ∧ lo ∈ r) : Ch N p m l0 (l.map fun r => r.map (lv hi lo)) (fun s => lv hi lo (σ s)) := by
 have hm := a0u (p := p) (m := m) hl0
 have hs : ∀ z, LE N p m l0 z (lv hi lo z) := fun z => by
  unfold lv
  split
  · rename_i e; rw [e]; exact hE
  · exact hm.refl z
 refine ⟨fun r hr => ?_, fun s => hm.trans (h.sym s) (hs _), fun r hr => ?_, fun r hr z hz => ?_, fun s => ?_⟩
 · obtain ⟨r0, h0, rfl⟩ := List.mem_map.1 hr
   exact hm.cong (h.rows r0 h0) (by simp) fun i hi => by rw [ir hi]; exact hs _
 · refine List.mem_map.2 ⟨_, h.img r hr, ?_⟩
   rw [List.map_map]
   rfl
 · obtain ⟨r0, h0, rfl⟩ := List.mem_map.1 hr
   obtain ⟨y, hy, rfl⟩ := List.mem_map.1 hz
   obtain ⟨r1, h1, h2⟩ := hin
   have e1 := h.fix r0 h0 y hy
   have e2 := h.fix r1 h1 lo h2
   by_cases e : y = hi
   · have e3 : lv hi lo y = lo := if_pos e
     show lv hi lo (σ (lv hi lo y)) = lv hi lo y
     rw [e3, e2]
     unfold lv
     split <;> rfl
   · have e3 : lv hi lo y = y := if_neg e
     show lv hi lo (σ (lv hi lo y)) = lv hi lo y
     rw [e3, e1, e3]
 · have h1 := h.le s
   have h2 : lv hi lo (σ s) ≤ σ s := by
    unfold lv
    split <;> omega
   exact Int.le_trans h2 h1
theorem ag0 {M : Nat → Nat → Int} {a b j : Nat} : d5 l (eqM M a b j) = (d5 l M).map fun r => r.map (lv (hiI (M a j) (M b j)) (loI (M a j) (M b j))) := by
 unfold d5
 rw [List.map_map]
 refine List.map_congr_left fun i _ => ?_
 show _ = List.map _ (List.map _ _)
 rw [List.map_map]
 rfl
theorem ajn {M : Nat → Nat → Int} {a j : Nat} (ha : a < l.length) (hj : j < (l.getD a default).length) : ∃ r, r ∈ d5 l M ∧ M a j ∈ r :=
 a2n.2 ⟨a, j, ha, hj, rfl⟩
theorem Ch.eqMs (hl0 : ∀ r, r ∈ l0 → r.length = N) {a b : Nat} (ha : a < l.length) (hb : b < l.length) : ∀ {js : List Nat} {M : Nat → Nat → Int} {σ : Int → Int}, Ch N p m l0 (d5 l M) σ → (∀ j, j ∈ js → j < (l.getD a default).length ∧ j < (l.getD b default).length ∧ LE N p m l0 (M a j) (M b j)) →
 ∃ σ', Ch N p m l0 (d5 l (eqMs M a b js)) σ'
 | [], M, σ, h, _ => ⟨σ, h⟩
 | j :: js, M, σ, h, hj => by
  obtain ⟨h1, h2, h3⟩ := hj j (by simp)
  have hm := a0u (p := p) (m := m) hl0
  have hlo : loI (M a j) (M b j) ≤ hiI (M a j) (M b j) := by unfold loI hiI; split <;> split <;> omega
  have hE : LE N p m l0 (hiI (M a j) (M b j)) (loI (M a j) (M b j)) := by
   rcases apj (M a j) (M b j) with e | e <;> rcases agj (M a j) (M b j) with f | f <;> rw [e, f]
   · exact hm.refl _
   · exact h3
   · exact hm.symm h3
   · exact hm.refl _
  have hin : ∃ r, r ∈ d5 l M ∧ loI (M a j) (M b j) ∈ r := by
   rcases agj (M a j) (M b j) with f | f <;> rw [f]
   · exact ajn ha h1
   · exact ajn hb h2
  have hq := h.sub hl0 hE hlo hin
  rw [← ag0] at hq
  have hs : ∀ z, LE N p m l0 z (if z = hiI (M a j) (M b j) then loI (M a j) (M b j) else z) := fun z => by
   split
   · rename_i e; rw [e]; exact hE
   · exact hm.refl z
  exact Ch.eqMs hl0 ha hb (js := js) hq fun k hk => by
   obtain ⟨h4, h5, h6⟩ := hj k (by simp [hk])
   exact ⟨h4, h5, hm.trans (hm.symm (hs (M a k))) (hm.trans h6 (hs (M b k)))⟩
theorem ad7 : d5 l (c5 l) = l := by
 refine kc (ja _ _) fun i hi => ?_
 rw [ja] at hi
 rw [a7q hi]
 refine kc (by simp) fun k hk => ?_
 simp only [List.length_map, List.length_range] at hk
 rw [List.getD_eq_getElem?_getD, List.getElem?_map, List.getElem?_range hk]
 rfl
theorem ags (hl0 : ∀ r, r ∈ l0 → r.length = N) {a b : Rw} {s : AS} (h : iz a b s = true) : AgE (LE N p m l0) a b s := fun i hi hs => by
 rw [of_decide_eq_true h i hi hs]
 exact (a0u hl0).refl _
theorem dy {α : Type} [Inhabited α] {l : List α} {i : Nat} (h : i < l.length) : l.getD i default ∈ l := by
 rw [List.getD_eq_getElem?_getD, List.getElem?_eq_getElem h]
 exact List.getElem_mem h
theorem am7 {a b : Rw} {s : AS} (hl : a.length = b.length) {z : Int} (hz : z ∈ d6 a b s) : z ∈ a ∨ z ∈ b := by
 unfold d6 at hz
 rw [List.mem_map] at hz
 obtain ⟨i, hi, rfl⟩ := hz
 have hi := List.mem_range.1 hi
 split
 · exact .inl (dy (by omega))
 · exact .inr (dy hi)
def auw (l : List Rw) (p m : List Fd) (s : St) : Prop := s.2.2.1 < l.length ∧ s.2.2.2 < l.length ∧ (s.1 = false → s.2.1 < p.length) ∧ (s.1 = true → s.2.1 < m.length)
theorem Ch.app (hl0 : ∀ r, r ∈ l0 → r.length = n.toNat) (hT : tok n l = true) (hp : p.all (inU n) = true) (h : Ch n.toNat p m l0 l σ) {s : St} (hs : auw l p m s) (he : (dc n l p m s).2.2 = 0) :
 (dc n l p m s).1 = n ∧ ∃ σ', Ch n.toNat p m l0 (dc n l p m s).2.1 σ' := by
 obtain ⟨mu, i, a, b⟩ := s
 obtain ⟨ha, hb, hf, hv⟩ := hs
 obtain ⟨h0, h1, h2, h3⟩ := gn hT
 have ha : a < l.length := ha
 have hb : b < l.length := hb
 have hra := h3 a ha
 have hrb := h3 b hb
 cases mu with
 | false =>
  have hi : i < p.length := hf rfl
  have e0 : dc n l p m (false, i, a, b) = fdE n l a b (p.getD i default) := rfl
  rw [e0] at he ⊢
  by_cases hg : iz (l.getD a default) (l.getD b default) (p.getD i default).lhs = true
  · have e1 : fdE n l a b (p.getD i default) = (n, az (d5 l (Go.Hx.eqMs (c5 l) a b (av (p.getD i default).rhs))), 0) := if_pos hg
    rw [e1]
    refine ⟨rfl, ?_⟩
    have hu : inU n (p.getD i default) = true := List.all_eq_true.1 hp _ (dy hi)
    have hm := a0u (p := p) (m := m) hl0
    have hR := hm.fd (dy hi) (h.rows _ (dy ha)) (h.rows _ (dy hb)) (ags hl0 hg)
    obtain ⟨σ', hσ⟩ := Ch.eqMs (p := p) (m := m) hl0 ha hb (js := av (p.getD i default).rhs) (M := c5 l) (σ := σ) (by rw [ad7]; exact h) fun j hj => by
     have h4 := a0t h0 h1 hu hj
     have h5 := lc.1 hj
     refine ⟨Nat.lt_of_lt_of_eq h4 hra.symm, Nat.lt_of_lt_of_eq h4 hrb.symm, hR j (Nat.lt_of_lt_of_eq h4 hra.symm) (by rw [gl h5.1]; exact h5.2)⟩
    exact ⟨σ', hσ.congr fun r => fe⟩
  · have e1 : fdE n l a b (p.getD i default) = (0, [], 1) := if_neg hg
    rw [e1] at he
    exact absurd he (by decide)
 | true =>
  have hi : i < m.length := hv rfl
  have e0 : dc n l p m (true, i, a, b) = mvE n l a b (m.getD i default) := rfl
  rw [e0] at he ⊢
  by_cases hg : iz (l.getD a default) (l.getD b default) (m.getD i default).lhs = true
  · have e1 : mvE n l a b (m.getD i default) = pg n l (d6 (l.getD a default) (l.getD b default) ((m.getD i default).lhs ||| (m.getD i default).rhs)) := if_pos hg
    rw [e1] at he ⊢
    by_cases hbig : 256 < (az (l ++ [d6 (l.getD a default) (l.getD b default) ((m.getD i default).lhs ||| (m.getD i default).rhs)])).length
    · have e2 : pg n l (d6 (l.getD a default) (l.getD b default) ((m.getD i default).lhs ||| (m.getD i default).rhs)) = (0, [], 3) := if_pos hbig
      rw [e2] at he
      exact absurd he (by decide)
    · have e2 : pg n l (d6 (l.getD a default) (l.getD b default) ((m.getD i default).lhs ||| (m.getD i default).rhs)) = (n, az (l ++ [d6 (l.getD a default) (l.getD b default) ((m.getD i default).lhs ||| (m.getD i default).rhs)]), 0) := if_neg hbig
      rw [e2]
      refine ⟨rfl, σ, ?_⟩
      have hm := a0u (p := p) (m := m) hl0
      have hR := hm.mv (dy hi) (h.rows _ (dy ha)) (h.rows _ (dy hb)) (ags hl0 hg)
      refine ⟨fun r hr => ?_, h.sym, fun r hr => fe.2 (List.mem_append_left _ (h.img r hr)), fun r hr z hz => ?_, h.le⟩
      · rcases List.mem_append.1 (fe.1 hr) with h4 | h4
        · exact h.rows r h4
        · rw [List.mem_singleton.1 h4]; exact hR
      · rcases List.mem_append.1 (fe.1 hr) with h4 | h4
        · exact h.fix r h4 z hz
        · rw [List.mem_singleton.1 h4] at hz
          rcases am7 (by omega) hz with h5 | h5
          · exact h.fix _ (dy ha) z h5
          · exact h.fix _ (dy hb) z h5
  · have e1 : mvE n l a b (m.getD i default) = (0, [], 1) := if_neg hg
    rw [e1] at he
    exact absurd he (by decide)
theorem a43 {P : Nat → Nat → Nat → Bool} {I L : Nat} (h : eq P I L = none) {i a b : Nat} (hi : i < I) (ha : a < L) (hb : b < L) : P i a b = false := by
 unfold eq at h
 rw [List.findSome?_eq_none_iff] at h
 have h1 := h i (List.mem_range.2 hi)
 rw [List.findSome?_eq_none_iff] at h1
 have h2 := h1 a (List.mem_range.2 ha)
 rw [Option.map_eq_none_iff, List.find?_eq_none] at h2
 exact Bool.eq_false_iff.2 (h2 b (List.mem_range.2 hb))
theorem aj3 (h : dj l p m = none) : (∀ i, i < p.length → ∀ a, a < l.length → ∀ b, b < l.length → dw l (p.getD i default) a b = false) ∧ ∀ i, i < m.length → ∀ a, a < l.length → ∀ b, b < l.length → ef l (m.getD i default) a b = false := by
 unfold dj at h
 split at h
 · cases h
 · rename_i e
   rw [Option.map_eq_none_iff] at h
   exact ⟨fun i hi a ha b hb => a43 (P := fun i a b => dw l (p.getD i default) a b) e hi ha hb, fun i hi a ha b hb => a43 (P := fun i a b => ef l (m.getD i default) a b) h hi ha hb⟩
theorem qc {α : Type} [Inhabited α] {l : List α} {x : α} (h : x ∈ l) : ∃ i, i < l.length ∧ l.getD i default = x := by
 obtain ⟨i, hi, rfl⟩ := List.getElem_of_mem h
 exact ⟨i, hi, by rw [List.getD_eq_getElem?_getD, List.getElem?_eq_getElem hi]; rfl⟩
theorem alx {f : Int → Int} {a b : Rw} {s : AS} (hl : a.length = b.length) : d6 (a.map f) (b.map f) s = (d6 a b s).map f := by
 unfold d6
 rw [List.map_map, List.length_map]
 refine List.map_congr_left fun i hi => ?_
 have hi := List.mem_range.1 hi
 show _ = f (if ct s (i : Int) = true then a.getD i default else b.getD i default)
 split
 · rw [ir (by omega)]
 · rw [ir hi]
theorem Ch.mdl (hT : tok n l = true) (hn : dj l p m = none) (σ : Int → Int) : Mdl n.toNat p m (fun x y => σ x = σ y) (fun r => r.length = n.toNat ∧ r.map σ ∈ l) := by
 obtain ⟨hF, hM⟩ := aj3 hn
 refine ⟨fun _ => rfl, fun h => h.symm, fun h k => h.trans k, fun h => h.1, fun {r r'} h e h2 => ⟨e.trans h.1, ?_⟩, fun {x} hx {a b} ha hb hl i hi hs => ?_, fun {x} hx {a b} ha hb hl => ⟨(kz _ _ _).trans hb.1, ?_⟩⟩
 · have : r'.map σ = r.map σ := by
    refine kc (by simp [e]) fun i hi => ?_
    rw [List.length_map] at hi
    rw [ir hi, ir (by omega)]
    exact (h2 i (by omega)).symm
   rw [this]; exact h.2
 · obtain ⟨k, hk, rfl⟩ := qc hx
   obtain ⟨ia, hia, ea⟩ := qc ha.2
   obtain ⟨ib, hib, eb⟩ := qc hb.2
   have h1 := hF k hk ia hia ib hib
   unfold dw at h1
   rw [ea, eb, wd (fun j hj hs => by rw [List.length_map] at hj; rw [ir hj, ir (by rw [hb.1, ← ha.1]; exact hj)]; exact hl j hj hs), Bool.true_and, Bool.not_eq_false'] at h1
   have h2 := of_decide_eq_true h1 i (by rw [List.length_map]; exact hi) hs
   rw [ir hi, ir (by rw [hb.1, ← ha.1]; exact hi)] at h2
   exact h2
 · obtain ⟨k, hk, rfl⟩ := qc hx
   obtain ⟨ia, hia, ea⟩ := qc ha.2
   obtain ⟨ib, hib, eb⟩ := qc hb.2
   have h1 := hM k hk ia hia ib hib
   unfold ef at h1
   rw [ea, eb, wd (fun j hj hs => by rw [List.length_map] at hj; rw [ir hj, ir (by rw [hb.1, ← ha.1]; exact hj)]; exact hl j hj hs), Bool.true_and, Bool.not_eq_false'] at h1
   obtain ⟨r, hr, e⟩ := List.any_eq_true.1 h1
   rw [← alx (by rw [ha.1, hb.1]), ← of_decide_eq_true e]
   exact hr
theorem Ch.has (h : Ch n.toNat p m l0 l σ) (hT : tok n l = true) (hl0 : ∀ r, r ∈ l0 → r.length = n.toNat) (hn : dj l p m = none) : (∀ x y, LE n.toNat p m l0 x y → σ x = σ y) ∧ ∀ r, LR n.toNat p m l0 r → r.map σ ∈ l := by
 have hm := Ch.mdl (p := p) (m := m) hT hn σ
 have hl : ∀ r, r ∈ l0 → r.length = n.toNat ∧ r.map σ ∈ l := fun r hr => ⟨hl0 r hr, h.img r hr⟩
 exact ⟨fun x y e => e _ _ hm hl, fun r e => (e _ _ hm hl).2⟩
theorem a6l {f : Int → Int} : ∀ {r : Rw}, (∀ z, z ∈ r → f z = z) → r.map f = r
 | [], _ => rfl
 | z :: r, h => by rw [List.map_cons, h z (by simp), a6l fun y hy => h y (by simp [hy])]
theorem Ch.mem (h : Ch n.toNat p m l0 l σ) (hT : tok n l = true) (hl0 : ∀ r, r ∈ l0 → r.length = n.toNat) (hn : dj l p m = none) {r : Rw} : r ∈ l ↔ LR n.toNat p m l0 r ∧ r.map σ = r := by
 constructor
 · intro hr
   exact ⟨h.rows r hr, a6l (h.fix r hr)⟩
 · rintro ⟨h1, h2⟩
   rw [← h2]
   exact (h.has hT hl0 hn).2 r h1
end
end Go.Hx
end
section
namespace Go.Hx
def axv : List (List Int) → List Rw
 | [] => [[]]
 | c :: cs => c.flatMap fun z => (axv cs).map fun r => z :: r
section
variable {N : Nat} {p m : List Fd} {l0 l : List Rw}
theorem aqe {a b : Rw} {s : AS} {i : Nat} (h : i < b.length) : (d6 a b s).getD i default = if ct s (i : Int) = true then a.getD i default else b.getD i default := by
 unfold d6
 rw [List.getD_eq_getElem?_getD, List.getElem?_map, List.getElem?_range h]
 rfl
theorem aog (C : Nat → List Int) (hd : ∀ i j z, z ∈ C i → z ∈ C j → i = j) : Mdl N p m (fun x y => x = y ∨ ∃ i, x ∈ C i ∧ y ∈ C i) (fun r => r.length = N ∧ ∀ i, i < N → r.getD i default ∈ C i) where
 refl _ := .inl rfl
 symm h := by
  rcases h with h | ⟨i, h, k⟩
  · exact .inl h.symm
  · exact .inr ⟨i, k, h⟩
 trans h h2 := by
  rcases h with h | ⟨i, h, k⟩
  · rw [h]; exact h2
  · rcases h2 with h2 | ⟨j, h2, k2⟩
    · rw [← h2]; exact .inr ⟨i, h, k⟩
    · have := hd i j _ k h2
      subst this
      exact .inr ⟨i, h, k2⟩
 len h := h.1
 cong h e h2 := ⟨e.trans h.1, fun i hi => by
  have h3 := h.2 i hi
  rcases h2 i (by rw [h.1]; exact hi) with h4 | ⟨j, h4, h5⟩
  · rw [← h4]; exact h3
  · have := hd i j _ h3 h4
    subst this
    exact h5⟩
 fd _ a b ha hb _ := fun i hi _ => .inr ⟨i, ha.2 i (by rw [← ha.1]; exact hi), hb.2 i (by rw [← ha.1]; exact hi)⟩
 mv _ a b ha hb _ := ⟨(kz _ _ _).trans hb.1, fun i hi => by
  rw [aqe (by rw [hb.1]; exact hi)]
  split
  · exact ha.2 i hi
  · exact hb.2 i hi⟩
def ay8 (N : Nat) (p m : List Fd) (l0 : List Rw) : Prop := ∀ l, l6 l → (∀ r, r ∈ l → LR N p m l0 r) → l.length ≤ 256
end
section
variable {p m : List Fd} {l0 l : List Rw} {n : Int} {σ : Int → Int}
theorem aer {s : St} (h : ur l p m s) : auw l p m s := by
 obtain ⟨h1, h2, h3⟩ := h
 refine ⟨h1, h2, fun e => ?_, fun e => ?_⟩
 · rcases h3 with ⟨_, h, _⟩ | ⟨h, _⟩
   · exact h
   · rw [e] at h; cases h
 · rcases h3 with ⟨h, _⟩ | ⟨_, h, _⟩
   · rw [e] at h; cases h
   · exact h
theorem Ch.code (h0 : tok n l0 = true) (hS : ay8 n.toNat p m l0) (hp : p.all (inU n) = true) (hT : tok n l = true) (h : Ch n.toNat p m l0 l σ) {s : St} (hs : ur l p m s) : (dc n l p m s).2.2 = 0 := by
 rcases abk hT hp hs with e | ⟨l', e, _⟩
 · obtain ⟨mu, i, a, b⟩ := s
   obtain ⟨ha, hb, hs | hs⟩ := hs
   · obtain ⟨h1, h2, h3⟩ := hs
     cases h1
     have h4 : dc n l p m (false, i, a, b) = fdE n l a b (p.getD i default) := rfl
     have hg := (ag3 hT (List.all_eq_true.1 hp _ (dy h2)) ha hb h3).1
     have hg : fdE n l a b (p.getD i default) = (n, fdL l a b (p.getD i default), 0) := hg
     rw [h4, hg] at e ⊢
   · obtain ⟨h1, h2, h3⟩ := hs
     cases h1
     have h4 : dc n l p m (true, i, a, b) = mvE n l a b (m.getD i default) := rfl
     have h5 : ef l (m.getD i default) a b = true := h3
     unfold ef at h5
     rw [Bool.and_eq_true] at h5
     have h6 : mvE n l a b (m.getD i default) = pg n l (d6 (l.getD a default) (l.getD b default) ((m.getD i default).lhs ||| (m.getD i default).rhs)) := if_pos h5.1
     have hl0 : ∀ r, r ∈ l0 → r.length = n.toNat := fun r hr => (sc h0 r hr).1
     have h7 := hS (az (l ++ [d6 (l.getD a default) (l.getD b default) ((m.getD i default).lhs ||| (m.getD i default).rhs)])) (fv _) fun r hr => by
      rcases List.mem_append.1 (fe.1 hr) with h8 | h8
      · exact h.rows r h8
      · rw [List.mem_singleton.1 h8]
        exact (a0u hl0).mv (dy h2) (h.rows _ (dy ha)) (h.rows _ (dy hb)) (ags hl0 h5.1)
     rw [h4, h6]
     unfold pg
     rw [if_neg (by omega)]
 · rw [e]
def TrZ (n : Int) (p m : List Fd) (lend : List Rw) : List Rw → List St → Prop
 | l, [] => l = lend
 | l, s :: r => tok n l = true ∧ ur l p m s ∧ ∃ l', dc n l p m s = (n, l', 0) ∧ ¬ l' = l ∧ TrZ n p m lend l' r
end
def stC (n : Int) (ps : List AS) (c : Nat) : List Int := if c < n.toNat then (List.range ps.length).map fun i => stV n i (ps.getD i default) c else []
section
variable {n : Int} {ps : List AS} {p m : List Fd}
theorem apx (h0 : 0 ≤ n) {i c : Nat} {q : AS} (hc : c < n.toNat) : stV n i q c % n = (c : Int) := by
 unfold stV
 split
 · exact Int.emod_eq_of_lt (by omega) (by omega)
 · have e : n + (i : Int) * n + (c : Int) = (c : Int) + n * (1 + (i : Int)) := by rw [Int.mul_add, Int.mul_one, Int.mul_comm (i : Int) n]; omega
   rw [e, Int.add_mul_emod_self_left]
   exact Int.emod_eq_of_lt (by omega) (by omega)
theorem a5p (h0 : 0 ≤ n) {c : Nat} {z : Int} (h : z ∈ stC n ps c) : c < n.toNat ∧ z % n = (c : Int) := by
 unfold stC at h
 split at h
 · rename_i hc
   obtain ⟨i, _, rfl⟩ := List.mem_map.1 h
   exact ⟨hc, apx h0 hc⟩
 · simp at h
theorem aso (h0 : 0 ≤ n) : ∀ i j z, z ∈ stC n ps i → z ∈ stC n ps j → i = j := fun i j z h k => by
 have h1 := (a5p h0 h).2
 have h2 := (a5p h0 k).2
 omega
theorem a56 {r : Rw} (hr : r ∈ be n ps) : r.length = n.toNat ∧ ∀ i, i < n.toNat → r.getD i default ∈ stC n ps i := by
 unfold be at hr
 obtain ⟨k, hk, rfl⟩ := List.mem_map.1 hr
 refine ⟨a1c _ _ _, fun i hi => ?_⟩
 rw [a52 hi]
 unfold stC
 rw [if_pos hi]
 exact List.mem_map.2 ⟨k, hk, rfl⟩
end
end Go.Hx
end
section
namespace Go.Hx
section
variable {n : Int} {ps : List AS} {p m : List Fd} {l l0 : List Rw} {σ : Int → Int}
theorem ax6 {N : Nat} {l l' : List Rw} (h : ∀ r, r ∈ l ↔ r ∈ l') {r : Rw} : LR N p m l r ↔ LR N p m l' r :=
 ⟨fun k E R hm hl => k E R hm fun r hr => hl r ((h r).1 hr), fun k E R hm hl => k E R hm fun r hr => hl r ((h r).2 hr)⟩
theorem ait (h0 : 0 ≤ n) {c : Nat} {z : Int} (h : z ∈ stC n ps c) : z = (c : Int) ∨ n ≤ z := by
 unfold stC at h
 split at h
 · obtain ⟨i, _, rfl⟩ := List.mem_map.1 h
   unfold stV
   split
   · exact .inl rfl
   · right
     have := Int.mul_nonneg (show (0 : Int) ≤ (i : Int) by omega) h0
     omega
 · simp at h
theorem Ch.first (h0 : 0 ≤ n) (h : Ch n.toNat p m (az (be n ps)) l σ) : (ce n).map σ = ce n := by
 refine a6l fun z hz => ?_
 unfold ce at hz
 obtain ⟨c, hc, rfl⟩ := List.mem_map.1 hz
 have hc := List.mem_range.1 hc
 have h1 := h.sym (c : Int) _ _ (aog (stC n ps) (aso h0)) fun r hr => a56 (fe.1 hr)
 rcases h1 with h1 | ⟨i, h1, h2⟩
 · exact h1.symm
 · have h3 := (a5p h0 h1).2
   have h4 := Int.emod_eq_of_lt (a := (c : Int)) (b := n) (by omega) (by omega)
   have h5 : i = c := by omega
   subst h5
   have h6 := h.le (i : Int)
   rcases ait h0 h2 with h7 | h7
   · exact h7
   · omega
theorem tt {r : Rw} : (l.any fun x => decide (x = r)) = decide (r ∈ l) := by
 rw [Bool.eq_iff_iff, List.any_eq_true, decide_eq_true_iff]
 constructor
 · rintro ⟨x, hx, e⟩
   rw [← of_decide_eq_true e]; exact hx
 · intro h
   exact ⟨r, h, decide_eq_true rfl⟩
def swI (n z : Int) : Int := if n ≤ z ∧ z < 2 * n then z + n else if 2 * n ≤ z ∧ z < 3 * n then z - n else z
abbrev b16 (n : Int) (x : Fd) : Fd := ⟨x.lhs, bf n &&& ~~~(x.lhs ||| x.rhs)⟩
end
end Go.Hx
end
section
namespace Go.Hx
section
variable {n : Int} {p m : List Fd} {l0 l : List Rw} {σ : Int → Int}
theorem amk (hT : tok n l = true) (hp : p.all (inU n) = true) (hm : m = []) {s : St} (hs : ur l p m s) : (dc n l p m s).2.2 = 0 := by
 obtain ⟨mu, i, a, b⟩ := s
 obtain ⟨ha, hb, hs | hs⟩ := hs
 · obtain ⟨h1, h2, h3⟩ := hs
   cases h1
   have h4 : dc n l p m (false, i, a, b) = fdE n l a b (p.getD i default) := rfl
   have hg : fdE n l a b (p.getD i default) = (n, fdL l a b (p.getD i default), 0) := (ag3 hT (List.all_eq_true.1 hp _ (dy h2)) ha hb h3).1
   rw [h4, hg]
 · obtain ⟨_, h2, _⟩ := hs
   subst hm
   exact absurd h2 (Nat.not_lt_zero _)
theorem ail (hl0 : ∀ r, r ∈ l0 → r.length = n.toNat) (hp : p.all (inU n) = true) (Z : List Int) : ∀ (F : Nat) (l : List Rw) (acc : List St) (σ : Int → Int), tok n l = true → Ch n.toNat p m l0 l σ → Cov Z l → muC Z l < F →
 (fu F n l p m acc = ([], (0, []), 3) ∧ ¬ m = []) ∨ ∃ sts lend σ', fu F n l p m acc = (acc ++ sts, (n, lend), 0) ∧ Ch n.toNat p m l0 lend σ' ∧ tok n lend = true ∧ dj lend p m = none ∧ TrZ n p m lend l sts := by
 intro F
 induction F with
 | zero => intro _ _ _ _ _ _ h; exact absurd h (Nat.not_lt_zero _)
 | succ F ih =>
  intro l acc σ hT hC hZ hF
  cases hn : dj l p m with
  | none => exact .inr ⟨[], l, σ, by rw [a4n (by omega) hn, List.append_nil], hC, hT, hn, rfl⟩
  | some s =>
   have hs := a0i hn
   rcases abk hT hp hs with e | ⟨l', e, hT', h3⟩
   · left
     refine ⟨a5c (by omega) hn e (by decide), fun hm => ?_⟩
     have := amk hT hp hm hs
     rw [e] at this
     exact absurd this (by decide)
   · obtain ⟨h4, h5⟩ := h3 Z hZ
     obtain ⟨_, σ', hC'⟩ := Ch.app hl0 hT hp hC (aer hs) (by rw [e])
     rw [e] at hC'
     rcases ih l' (acc ++ [s]) σ' hT' hC' h4 (by omega) with ⟨q, q0⟩ | ⟨sts, lend, σ2, q1, q2, q3, q4, q5⟩
     · left
       exact ⟨by rw [v8 (by omega) hn e, Nat.add_sub_cancel, q], q0⟩
     · right
       refine ⟨s :: sts, lend, σ2, ?_, q2, q3, q4, hT, hs, l', e, fun e => ?_, q5⟩
       · rw [v8 (by omega) hn e, Nat.add_sub_cancel, q1, List.append_assoc]
         rfl
       · subst e
         omega
theorem agx (hT : tok n l = true) (hb : cq n p m = 0) : (gk FU n l p m = ([], (0, []), 3) ∧ ¬ m = []) ∨ ∃ sts lend σ, gk FU n l p m = (sts, (n, lend), 0) ∧ Ch n.toNat p m l lend σ ∧ tok n lend = true ∧ dj lend p m = none ∧ TrZ n p m lend l sts := by
 have hck : ckE n l p m = 0 := (if_pos hT).trans hb
 rw [og hck]
 rcases ail (fun r hr => (sc hT r hr).1) (s6 hb).2.2.2.1 l.flatten FU l [] id hT Ch.start (abv l) (a94 hT) with h | ⟨sts, lend, σ', q1, q⟩
 · exact .inl h
 · exact .inr ⟨sts, lend, σ', by rw [q1, List.nil_append], q⟩
def trL (n : Int) (p m : List Fd) : List Rw → List St → List (List Rw)
 | l, [] => [l]
 | l, s :: r => l :: trL n p m (dc n l p m s).2.1 r
theorem a6b : ∀ {sts : List St} {l : List Rw}, (trL n p m l sts).length = sts.length + 1
 | [], _ => rfl
 | s :: r, l => by unfold trL; rw [List.length_cons, a6b, List.length_cons]
theorem ac9 : ∀ {sts : List St} {l lend : List Rw}, TrZ n p m lend l sts → lend ∈ trL n p m l sts
 | [], l, lend, h => by
  have h : l = lend := h
  subst h
  simp [trL]
 | s :: r, l, lend, h => by
  obtain ⟨_, _, l', e, _, h⟩ := h
  unfold trL
  rw [e]
  exact List.mem_cons_of_mem _ (ac9 h)
theorem ahm (hl0 : ∀ r, r ∈ l0 → r.length = n.toNat) (hp : p.all (inU n) = true) : ∀ {sts : List St} {l lend : List Rw} {σ : Int → Int}, TrZ n p m lend l sts → tok n lend = true → Ch n.toNat p m l0 l σ → ∀ t, t ∈ trL n p m l sts → ∃ σ, Ch n.toNat p m l0 t σ
 | [], l, lend, σ, h, _, hC, t, ht => by
  rw [List.mem_singleton.1 (show t ∈ [l] from ht)]
  exact ⟨σ, hC⟩
 | s :: r, l, lend, σ, h, hTe, hC, t, ht => by
  obtain ⟨hT, hs, l', e, _, h⟩ := h
  unfold trL at ht
  rw [e] at ht
  rcases List.mem_cons.1 ht with rfl | ht
  · exact ⟨σ, hC⟩
  · obtain ⟨_, σ', hC'⟩ := Ch.app hl0 hT hp hC (aer hs) (by rw [e])
    rw [e] at hC'
    exact ahm hl0 hp h hTe hC' t ht
end
section
variable {n : Int} {ps : List AS} {p m : List Fd}
theorem a4k (h0 : 0 ≤ n) (h16 : n ≤ 16) (hk : ps.length ≤ 64) : tok n (az (be n ps)) = true := by
 refine a07 h0 h16 ?_ fun r hr => ?_
 · have := tl (be n ps)
   rw [ll] at this
   omega
 · obtain ⟨h1, h2⟩ := a56 hr
   refine ⟨h1, fun z hz => ?_⟩
   obtain ⟨i, hi, rfl⟩ := qc hz
   rcases ait h0 (h2 i (by omega)) with h3 | h3 <;> omega
theorem zo (hk : ps.length ≤ 64) (hb : cq n p m = 0) :
 (gk FU n (az (be n ps)) p m = ([], (0, []), 3) ∧ ¬ m = []) ∨ ∃ sts lend, gk FU n (az (be n ps)) p m = (sts, (n, lend), 0) ∧ (ce n ∈ lend ↔ LR n.toNat p m (be n ps) (ce n)) ∧
  TrZ n p m lend (az (be n ps)) sts ∧ tok n lend = true ∧ ((∃ t, t ∈ trL n p m (az (be n ps)) sts ∧ ce n ∈ t) ↔ ce n ∈ lend) := by
 obtain ⟨h0, h16, _, hp, _⟩ := s6 hb
 have hT := a4k h0 h16 hk
 have hl0 : ∀ r, r ∈ az (be n ps) → r.length = n.toNat := fun r hr => (sc hT r hr).1
 rcases agx hT hb with h | ⟨sts, lend, σ, h1, h2, h3, h4, h5⟩
 · exact .inl h
 · right
   have hf : ce n ∈ lend ↔ LR n.toNat p m (az (be n ps)) (ce n) := by
    rw [h2.mem h3 hl0 h4]
    exact ⟨fun h => h.1, fun h => ⟨h, h2.first h0⟩⟩
   refine ⟨sts, lend, h1, by rw [hf, ax6 (l' := be n ps) fun r => fe], h5, h3, ?_⟩
   constructor
   · rintro ⟨t, ht, hft⟩
     obtain ⟨σ', hC⟩ := ahm hl0 hp h5 h3 Ch.start t ht
     exact hf.2 (hC.rows _ hft)
   · intro h
     exact ⟨lend, ac9 h5, h⟩
end
end Go.Hx
end
section
namespace Go.Hx
section
variable {n : Int} {l : List Fd}
end
theorem auq {α β : Type} [Inhabited α] {f : α → β} {l : List α} {i : Nat} (h : i < l.length) : (l.take (i + 1)).map f = (l.take i).map f ++ [f (l.getD i default)] := by
 rw [ci h, List.map_append]
 rfl
structure Dps where
 n : BitVec 8
 l : List Dp
deriving Inhabited
def Dps.num (d : Dps) : Int := ((d.n.toNat % 7 : Nat) : Int)
def Dps.fds (d : Dps) : List Fd := d.l.map (Dp.fd d.num)
def Dps.c (d : Dps) : Nat → PV
 | 0 => .raw (.int .u8 (d.n.toNat : Int))
 | 1 => dpl d.l
 | _ => .any
abbrev Dps.pc (d : Dps) : PC := .agg [d.c 0, d.c 1]
theorem akk (d : Dps) : 0 ≤ d.num ∧ d.num ≤ 6 := by unfold Dps.num; omega
theorem awt {d : Dps} (h : d.l.length ≤ 6) : c8 d.num d.fds = 0 := by
 obtain ⟨h0, h1⟩ := akk d
 unfold c8
 rw [if_neg (by omega), if_neg (by unfold Dps.fds; rw [List.length_map]; omega), if_pos]
 rw [List.all_eq_true]
 intro f hf
 unfold Dps.fds at hf
 obtain ⟨x, hx, rfl⟩ := List.mem_map.1 hf
 exact (nn h0 (by omega)).2 ⟨qf, qf⟩
theorem ash {d : Dps} (h : d.l.length ≤ 6) : d7 d.num d.fds 8 = 0 := by
 unfold d7
 rw [if_pos (awt h), if_neg (by have := (akk d).2; omega)]
end Go.Hx
end
section
namespace Go.Hx
open Go.Proofs
set_option maxRecDepth 100000
theorem awm : goodFn Tryz.prog 57 := ⟨Tryz.f57, Tryz.func57, by kernel_rfl, by kernel_rfl⟩
theorem axx (n : Int) (l : List Dp) (hl : l.length ≤ 16777216) : ah Tryz.prog 57 [pI n, pP (dpl l)] (ap [pP (fdl (l.map (Dp.fd n)))]) := by
 refine ag (nt := 37) af Tryz.func57 rfl rfl l9 ?_; refine sx7 ?_; refine qy ?_; refine a6 ?_; refine sx7 ?_; refine qy ?_; refine rc rfl rfl rfl rfl rfl rfl vc (vo n) (CoL.refl _) rfl rfl ?_; refine qy ?_
 refine a6 ?_; refine sx7 ?_; refine qy ?_; refine a6 ?_; refine a7 ?_; refine sx7 ?_; refine qy ?_; refine a6 ?_; refine ae ?_
 refine dl 6 900 true 2 40 (lf Fd.c []) (by decide) rfl (CoP.sl rfl (.inr rfl) (fun h => h) (fun i j hi _ => absurd hi (Nat.not_lt_zero i))) (.inr rfl) rfl ?_
 refine aj (ι := Nat) ⟨[(1, some _), (5, some _)], []⟩ ⟨⟨c9, c9, trivial⟩, trivial⟩ (fun i => ⟨[(6, some (.v (.one (.ref 900 ((l.take i).map (Dp.fd n)).length)))), (7, some (vI i))], [(900, some (.arr true 2 40 ((l.take i).map (Dp.fd n)).length (lf Fd.c ((l.take i).map (Dp.fd n)))))]⟩) (fun i => i ≤ l.length) (fun i => l.length - i) (0) (Nat.zero_le _) ⟨⟨zy, zy, trivial⟩, ⟨u9, trivial⟩⟩ ?_
 rintro i hi
 have hlen : ((l.take i).map (Dp.fd n)).length ≤ i := by rw [List.length_map, List.length_take]; omega
 refine a7 ?_; refine sx7 ?_; (iterate 4 refine qy ?_); refine a6 ?_; refine a8 _ rfl (fun r0 => ?_) (fun r0 => ?_)
 ·
  have h0 := of_decide_eq_true r0
  try simp only [ty] at h0
  refine aa ?_; refine a7 ?_; refine ae ?_; refine aw (E := b4) af aq [0, 1, 2, 3, 4, 5, 6, 7, 8, 9, 10, 11, 12, 13, 14, 15, 16, 17, 18, 19, 20] ?_; (iterate 18 refine qy ?_); refine m9 0 ?_
  refine ra 1 true rfl rfl rfl rfl rfl rfl ?_; refine qy ?_; refine a6 ?_; refine ⟨by kernel_rfl, ?_⟩; refine gy ?_; (iterate 3 refine qy ?_); refine a6 ?_; refine ⟨i + 1, ?_, ?_, ?_⟩
  · show i + 1 ≤ _; omega
  · first | omega | (dsimp only; omega)
  · exact ⟨⟨⟨_, rfl, (ej (auq (by omega)))⟩, zy, c9, c9, trivial⟩, ⟨⟨_, rfl, (td (auq (by omega)) (CoP.of_eq (congrArg (fun z => PV.raw (.int .u32 z)) (aky _ _))) (CoP.of_eq (congrArg (fun z => PV.raw (.int .u32 z)) (aky _ _))))⟩, trivial⟩⟩
 ·
  have h0 := of_decide_eq_false r0
  try simp only [ty] at h0
  obtain rfl : i = l.length := by omega
  refine al ?_; refine sx7 ?_; (iterate 2 refine qy ?_); refine a6 ?_; refine bs 4 rfl rfl rfl ?_
  exact hx8 rfl rfl rfl (⟨CoC.one (CoP.of_eq (by rw [List.take_length]; rfl)), trivial⟩)
theorem avo : goodFn Tryz.prog 28 := ⟨Tryz.f28, Tryz.func28, by kernel_rfl, by kernel_rfl⟩
theorem cOf (d : Dps) (hl : d.l.length ≤ 16777216) : ah Tryz.prog 28 [d.pc] (ap [pI d.num, pP (fdl d.fds), pB (decide (d.l.length ≤ 6))]) := by
 refine ag (nt := 19) af Tryz.func28 rfl rfl l9 ?_; refine sx7 ?_; refine m9 0 ?_; (iterate 3 refine qy ?_); refine a6 ?_; refine sx7 ?_; (iterate 5 refine qy ?_); refine a6 ?_; refine a7 ?_
 refine aw (E := b4) af aq [0, 1, 2, 3, 4, 5, 6, 7, 8, 9, 10, 11] ?_; (iterate 4 refine qy ?_); refine rc rfl rfl rfl rfl rfl rfl awm (axx d.num d.l hl) (CoL.refl _) rfl rfl ?_; (iterate 7 refine qy ?_)
 refine a6 ?_; refine ⟨by kernel_rfl, ?_⟩
 exact hx8 rfl rfl rfl (⟨cci (show (d.n.toNat : Int) % 7 = d.num by unfold Dps.num; omega), CoC.refl _, ccb (decide_eq_decide.2 (by omega)), trivial⟩)
end Go.Hx
end
section
namespace Go.Hx
def noA (s : AS) (a : Nat) : AS := s &&& ~~~((1 : AS) <<< a)
def awu (n : Int) (l : List Fd) (s : AS) (a : Nat) : AS := if oz n l (noA s a) = true then noA s a else s
def ayj (n : Int) (l : List Fd) (s : AS) (k : Nat) : AS := (List.range k).foldl (fun s j => awu n l s (n.toNat - 1 - j)) s
def rkE (n : Int) (l : List Fd) (s : AS) : Int := if c8 n l = 0 then (if oz n l s = true then 0 else 1) else c8 n l
def rkS (n : Int) (l : List Fd) (s : AS) : AS := if rkE n l s = 0 then ayj n l s n.toNat else 0
def ayk (n : Int) (l : List Fd) (s : AS) : Bool := oz n l s && (List.range n.toNat).all fun a => !(s.getLsbD a && oz n l (noA s a))
def ayl (n : Int) (l : List Fd) (i : Nat) : List AS := ((List.range i).map (BitVec.ofNat 32)).filter (ayk n l)
def aoz (n : Int) (l : List Fd) : List AS := if c8 n l = 0 then ord (ayl n l (2 ^ n.toNat)) else []
end Go.Hx
end
section
namespace Go.Hx
def bC : Bool → Nat → PV := fun b _ => .raw (.bool b)
def alp (n : Int) (l : List Fd) (k : Nat) : Bool := decide (clo l (BitVec.ofNat 32 k) = bf n)
def b05 (n : Int) (l : List Fd) (i : Nat) : List Bool := (List.range (2 ^ n.toNat)).map fun k => decide (k < i) && alp n l k
def b18 (n : Int) (l : List Fd) : List Bool := b05 n l (2 ^ n.toNat)
end Go.Hx
end
section
namespace Go.Hx
section
variable {n : Int} {l : List Fd}
def okA (n : Int) (l : List Fd) (i a : Nat) : Bool := alp n l i && (List.range a).all fun b => !(i.testBit b && alp n l (i ^^^ 2 ^ b))
section
variable {i a : Nat} (hv : c8 n l = 0) (hi : i < 2 ^ n.toNat) (ha : (a : Int) < n) (hx : i ^^^ 2 ^ a < 2 ^ n.toNat)
include hv hi ha hx
end
end
end Go.Hx
end
section
namespace Go.Hx
def afa (s : AS) : Nat → AS → List AS
 | 0, _ => []
 | n + 1, x => if x = 0 then [] else x :: afa s n ((x - 1) &&& s)
def a8w (s : AS) : List AS := 0 :: afa s (s.toNat + 1) s
theorem sub_zero (s : AS) : sub 0 s := c6.2 fun i hi h => by simp at h
def TsI (s : AS) (x : Nat × List AS × AS) : Prop := x.2.1 ++ afa s x.1 x.2.2 = a8w s ∧ x.2.2.toNat < x.1 ∧ x.2.1.length + x.1 = s.toNat + 2
def ac3 (l : List Fd) (p s : AS) : Bool := decide (sub p (clo l s))
def azd (l : List Fd) (p x : AS) : Bool := (List.range 32).all fun a => !(x.getLsbD a && ac3 l p (noA x a))
def b17 (l : List Fd) (p x r : AS) : Prop := sub r x ∧ ∀ a, a < 32 → x.getLsbD a = true → r.getLsbD a = true ∨ ac3 l p (noA x a) = false
def am6 (l : List Fd) (p x : AS) : Bool := ac3 l p x && azd l p x
def aho (l : List Fd) (p : AS) : AS := orL ((a8w p).filter (am6 l p))
theorem a6i {k : Nat} : ∀ {ps : List AS} {s : AS}, (ps.foldl (· ||| ·) s).getLsbD k = (s.getLsbD k || ps.any fun x => x.getLsbD k)
 | [], s => by simp
 | x :: ps, s => by
  rw [List.foldl_cons, a6i, BitVec.getLsbD_or, List.any_cons, Bool.or_assoc]
def b0h (l : List Fd) (p : AS) (i : Nat) : AS := orL (((a8w p).take i).filter (am6 l p))
end Go.Hx
end
section
namespace Go.Hx
def b0x (l : List Fd) (p x : AS) (a : Nat) : Bool := (List.range a).all fun b => !(x.getLsbD b && ac3 l p (noA x b))
def azg (i : Nat) : List AS := (List.range i).map (BitVec.ofNat 32)
def prQ (l : List Fd) (p x : AS) : Bool := decide (sub x p) && am6 l p x
def b0g (l : List Fd) (p : AS) (i : Nat) : AS := orL ((azg i).filter (prQ l p))
section
variable {l : List Fd} {p : AS} {i : Nat}
end
def azf (l : List Fd) (p x : AS) : Bool := !ac3 l p x && decide (((clo l x &&& p) &&& ~~~x) &&& ~~~aho l p ≠ 0)
def avc (l : List Fd) (p : AS) : Bool := !(a8w p).any (azf l p)
def azs (n : Int) (l : List Fd) (p : AS) : Int := if c8 n l = 0 then (if sub p (bf n) then 0 else 1) else c8 n l
def b0y (n : Int) (l : List Fd) (p : AS) : Bool := decide (azs n l p = 0) && avc l p
end Go.Hx
end
section
namespace Go.Hx
section
variable {n : Int} {l : List Fd}
def awl (n : Int) (l : List Fd) (f : Fd) : Bool := decide (clo l f.lhs ≠ bf n) && decide (f.rhs &&& ~~~aho l (bf n) ≠ 0)
def b0l (n : Int) (l : List Fd) (i : Nat) : List Fd := ((ld n l).take i).filter (awl n l)
def b0j (n : Int) (l : List Fd) : List Fd := (ld n l).filter (awl n l)
end
end Go.Hx
end
section
namespace Go.Hx
def b07 (l : List Fd) (pr k : AS) : Bool := (List.range 32).all fun a => !k.getLsbD a || decide (sub (clo l (noA k a)) pr)
def azp (n : Int) (l : List Fd) : Bool := (aoz n l).all (b07 l (orL (aoz n l)))
def b13 (n : Int) (l : List Fd) : Bool := decide (c8 n l = 0) && azp n l
section
variable {l : List Fd} {pr k : AS}
def b19 (l : List Fd) (pr k r : AS) : Prop := sub r k ∧ ∀ a, a < 32 → k.getLsbD a = true → r.getLsbD a = true ∨ sub (clo l (noA k a)) pr
def b12 (l : List Fd) (pr k : AS) (s : Nat) : Prop := ∀ j, j < s → sub (BitVec.ofNat 32 j) k → sub (clo l (BitVec.ofNat 32 j)) pr
end
section
variable {n : Int} {l : List Fd}
end
end Go.Hx
end
section
namespace Go.Hx
def mgR (l : List Fd) (s : AS) : AS := (l.filter fun f => decide (f.lhs = s)).foldl (fun a f => a ||| f.rhs) 0
def mgF (l : List Fd) (s : AS) : Fd := ⟨s, mgR l s⟩
def b0b (l : List Fd) : List Fd := (ord (l.map Fd.lhs)).map (mgF l)
end Go.Hx
end
section
namespace Go.Hx
open Go.Proofs
def b0s (t : AS) (l : List Fd) : Prop := ∀ x ∈ l, sub x.rhs t
def agr (n : Int) (l : List Fd) : List Fd := b0b (ld n l)
def pt (f : Fd) : AS := f.lhs ||| f.rhs
section
variable {n : Int} {l : List Fd}
def apm (n : Int) (l : List Fd) (i : Nat) : Bool := ((agr n l).take i).any fun f => oz n l (pt f)
def afn (n : Int) (l : List Fd) : List AS := (agr n l).map pt
def azo (n : Int) (l : List Fd) : List AS := db (if apm n l (agr n l).length = true then afn n l else afn n l ++ [rkS n l (bf n)])
def b0u (n : Int) (l : List Fd) : List AS := if c8 n l = 0 then azo n l else []
def b0z (n : Int) (l : List Fd) : List AS := if apm n l (agr n l).length = true then afn n l else afn n l ++ [rkS n l (bf n)]
end
end Go.Hx
end
section
namespace Go.Hx
def Eqv (l k : List Fd) : Prop := ∀ s, od l s ↔ od k s
theorem Eqv.refl (l : List Fd) : Eqv l l := fun s => Iff.rfl
theorem Eqv.trans {a b c : List Fd} (h : Eqv a b) (k : Eqv b c) : Eqv a c := fun s => (h s).trans (k s)
theorem Eqv.clo {l k : List Fd} (h : Eqv l k) (s : AS) : clo l s = clo k s :=
 gt (za ((h _).2 sm) a59) (za ((h _).1 sm) a59)
end Go.Hx
end
section
namespace Go.Hx
def b0m (l : List Fd) (ps : List AS) (t : AS) : Prop := ∀ p ∈ ps, sub (clo l (t &&& p) &&& p) t
def az6 (l : List Fd) (s p : AS) : AS := s ||| (clo l (s &&& p) &&& p)
def b0f (l : List Fd) (ps : List AS) (s : AS) : AS := ps.foldl (az6 l) s
def PrI (l : List Fd) (ps : List AS) (z s : AS) : Prop := sub z s ∧ sub s (a31 l ps z)
def b14 (n : Int) (l : List Fd) (i : Nat) : List AS := ((d3 (bf n)).take i).filter fun s => !bz l s
end Go.Hx
end
section
namespace Go.Hx
def b0d (l : List Fd) : Prop := ∀ f ∈ l, ∀ i, i < 32 → f.rhs.getLsbD i = true → f.lhs.getLsbD i = false
section
variable {n : Int} {l : List Fd}
end
end Go.Hx
end
section
namespace Go.Hx
open Go.Proofs
theorem aee {ps : List AS} {k : AS} (h : k ∈ ps) : sub k (orL ps) := c6.2 fun i hi hb => by
 unfold orL
 rw [a6i, Bool.or_eq_true]
 exact .inr (List.any_eq_true.2 ⟨k, h, hb⟩)
section
variable {n : Int} {l : List Fd}
end
end Go.Hx
end
section
namespace Go.Hx
theorem xg {L : List AS} {x : AS} : x ∈ db L ↔ x ∈ L ∧ ∀ y ∈ L, sub x y → x = y := by
 unfold db xo ss
 rw [List.mem_filter, sb, Bool.not_eq_true', List.any_eq_false]
 constructor
 · rintro ⟨h1, h2⟩
   refine ⟨h1, fun y hy hs => Classical.byContradiction fun hne => h2 y (sb.2 hy) ?_⟩
   rw [Bool.and_eq_true, decide_eq_true_iff]
   exact ⟨hne, decide_eq_true hs⟩
 · rintro ⟨h1, h2⟩
   refine ⟨h1, fun y hy hc => ?_⟩
   rw [Bool.and_eq_true, decide_eq_true_iff] at hc
   exact hc.1 (h2 y (sb.1 hy) (of_decide_eq_true hc.2))
theorem a7r (L : List AS) : ly (db L) := by
 unfold db xo
 exact (gm L).sublist List.filter_sublist
theorem a5a {L : List AS} : ∀ (n : Nat) (x : AS), x ∈ L → 4294967296 - x.toNat ≤ n → ∃ y ∈ db L, sub x y
 | 0, x, _, h => by have := x.isLt; omega
 | n + 1, x, hx, h => by
  by_cases hm : x ∈ db L
  · exact ⟨x, hm, l8 x⟩
  · have : ∃ y ∈ L, sub x y ∧ x ≠ y := by
     apply Classical.byContradiction
     intro hn
     exact hm (xg.2 ⟨hx, fun y hy hs => Classical.byContradiction fun hne => hn ⟨y, hy, hs, hne⟩⟩)
    obtain ⟨y, hy, hs, hne⟩ := this
    have hlt := sw hs hne
    have hyl := y.isLt
    obtain ⟨z, hz, hyz⟩ := a5a n y hy (by omega)
    exact ⟨z, hz, gc hs hyz⟩
theorem a60 {L : List AS} {x : AS} (h : x ∈ L) : ∃ y ∈ db L, sub x y := a5a 4294967296 x h (by omega)
section
variable {n : Int} {l : List Fd}
theorem aw8 {L : List AS} {t : AS} (h : ∀ x ∈ L, sub x t) : sub (orL L) t := c6.2 fun i hi hb => by
 unfold orL at hb
 rw [a6i, Bool.or_eq_true] at hb
 rcases hb with hb | hb
 · simp at hb
 · obtain ⟨x, hx, hxb⟩ := List.any_eq_true.1 hb
   exact c6.1 (h x hx) i hi hxb
end
end Go.Hx
end
section
namespace Go.Hx
def qk (E : Int → Int → Prop) (R : Rw → Prop) (s : AS) : Prop := ∃ r, R r ∧ ∀ i : Nat, i < r.length → ct s (i : Int) = true → E (r.getD i default) (i : Int)
section
variable {N : Nat} {p m : List Fd} {E : Int → Int → Prop} {R : Rw → Prop}
theorem p7 {s t : AS} (h : sub s t) {i : Nat} (hi : ct s (i : Int) = true) : ct t (i : Int) = true := by
 by_cases hl : i < 32
 · rw [gl hl] at hi ⊢
   exact c6.1 h i hl hi
 · rw [qg (by omega)] at hi
   cases hi
theorem anf (h : Mdl N p m E R) {a b : Rw} (ha : R a) (hb : R b) {f : Fd} (hf : f ∈ p) {s : AS} (hs : AgE E a b s) : AgE E a b (dm s f) := by
 unfold dm
 split
 · rename_i hl
   have h2 := h.fd hf ha hb fun i hi hh => hs i hi (p7 hl hh)
   intro i hi hh
   rw [a0r, Bool.or_eq_true] at hh
   rcases hh with hh | hh
   · exact hs i hi hh
   · exact h2 i hi hh
 · exact hs
theorem a7f (h : Mdl N p m E R) {a b : Rw} (ha : R a) (hb : R b) : ∀ {q : List Fd} {s : AS}, (∀ f, f ∈ q → f ∈ p) → AgE E a b s → AgE E a b (cr q s)
 | [], s, _, hs => hs
 | f :: q, s, hq, hs => a7f h ha hb (q := q) (s := dm s f) (fun g hg => hq g (by simp [hg])) (anf h ha hb (hq f (by simp)) hs)
theorem adw (h : Mdl N p m E R) {a b : Rw} (ha : R a) (hb : R b) : ∀ {k : Nat} {s : AS}, AgE E a b s → AgE E a b (clF p k s)
 | 0, s, hs => hs
 | k + 1, s, hs => by
  unfold clF
  split
  · exact hs
  · exact adw h ha hb (a7f h ha hb (fun _ hf => hf) hs)
theorem arh (h : Mdl N p m E R) {a b : Rw} (ha : R a) (hb : R b) {s : AS} (hs : AgE E a b s) : AgE E a b (clo p s) := adw h ha hb hs
theorem qk.mono {s t : AS} (h : qk E R t) (hs : sub s t) : qk E R s := by
 obtain ⟨r, h1, h2⟩ := h
 exact ⟨r, h1, fun i hi hh => h2 i hi (p7 hs hh)⟩
theorem am9 (h : Mdl N p m E R) {r : Rw} (hr : R r) {z q c : AS} (hz : ∀ i : Nat, i < r.length → ct z (i : Int) = true → E (r.getD i default) (i : Int)) (hq : qk E R q) (hc1 : sub c (clo p (z &&& q))) (hc2 : sub c q) :
 ∀ i : Nat, i < r.length → ct (z ||| c) (i : Int) = true → E (r.getD i default) (i : Int) := by
 obtain ⟨b, hb, hbq⟩ := hq
 have hl : r.length = b.length := (h.len hr).trans (h.len hb).symm
 have hag : AgE E r b (z &&& q) := fun i hi hh => h.trans (hz i hi (p7 pw hh)) (h.symm (hbq i (by omega) (p7 qf hh)))
 have hcl := arh h hr hb hag
 intro i hi hh
 rw [a0r, Bool.or_eq_true] at hh
 rcases hh with hh | hh
 · exact hz i hi hh
 · exact h.trans (hcl i hi (p7 hc1 hh)) (hbq i (by omega) (p7 hc2 hh))
theorem ajy (h : Mdl N p m E R) {s : AS} (hv : bz p s = true) (h1 : qk E R (spA p s)) (h2 : qk E R (spB p s)) : qk E R s := by
 obtain ⟨x, hx, hxs, hvx⟩ := a8a hv
 have e : gq p s = aak p s x := by unfold gq; rw [hx]
 have ea : spA p s = x ||| ((clo p x &&& s) &&& ~~~x) := by unfold spA; rw [e]; rfl
 have eb : spB p s = s &&& ~~~((clo p x &&& s) &&& ~~~x) := by unfold spB; rw [e]; rfl
 obtain ⟨r, hr, hrz⟩ := h2
 rw [eb] at hrz
 refine ⟨r, hr, fun i hi hh => ?_⟩
 have := am9 h hr hrz h1 (c := (clo p x &&& s) &&& ~~~x) ?_ ?_ i hi ?_
 · exact this
 · refine gc pw (gc pw (alw ?_))
   rw [ea]
   exact sk (sk hxs (c6.2 fun i hi hb => by
    rw [BitVec.getLsbD_not, BitVec.getLsbD_and, BitVec.getLsbD_not, hb]
    simp [hi])) yb
 · rw [ea]; exact wu
 · rw [a0r, Bool.or_eq_true]
   by_cases hb : ct ((clo p x &&& s) &&& ~~~x) (i : Int) = true
   · exact .inr hb
   · left
     have hl : i < 32 := by
      apply Classical.byContradiction
      intro hn
      rw [qg (by omega)] at hh
      cases hh
     rw [gl hl] at hb hh ⊢
     rw [BitVec.getLsbD_and, BitVec.getLsbD_not, hh, Bool.eq_false_iff.2 hb]
     simp [hl]
theorem as6 (h : Mdl N p m E R) : ∀ (f : Nat) (todo out : List AS), dq todo < f → (∀ q, q ∈ kr p f todo out → qk E R q) → (∀ q, q ∈ out → qk E R q) ∧ ∀ s, s ∈ todo → qk E R s := by
 intro f
 induction f with
 | zero => intro _ _ h _; exact absurd h (Nat.not_lt_zero _)
 | succ f ih =>
  intro todo out hm hq
  unfold kr at hq
  by_cases h0 : todo.length = 0
  · rw [if_pos h0] at hq
    have : todo = [] := List.length_eq_zero_iff.1 h0
    subst this
    exact ⟨hq, fun s hs => by simp at hs⟩
  · rw [if_neg h0] at hq
    have hlast := ni (todo := todo) (by omega)
    have hms := iw (todo.take (todo.length - 1)) [todo.getD (todo.length - 1) default]
    rw [← hlast] at hms
    have hone : dq [todo.getD (todo.length - 1) default] = 3 ^ bsz (todo.getD (todo.length - 1) default) := by unfold dq; simp
    have hp1 : 0 < 3 ^ bsz (todo.getD (todo.length - 1) default) := Nat.pow_pos (by decide)
    by_cases hv : bz p (todo.getD (todo.length - 1) default) = true
    · rw [if_pos hv] at hq
      obtain ⟨s1, s2, s3, s4⟩ := jz hv
      have b1 := dh s1 s2
      have b2 := dh s3 s4
      have hm2 : dq (todo.take (todo.length - 1) ++ [spA p (todo.getD (todo.length - 1) default), spB p (todo.getD (todo.length - 1) default)]) < f := by
       rw [iw]
       have e2 : dq [spA p (todo.getD (todo.length - 1) default), spB p (todo.getD (todo.length - 1) default)] = 3 ^ bsz (spA p (todo.getD (todo.length - 1) default)) + 3 ^ bsz (spB p (todo.getD (todo.length - 1) default)) := by unfold dq; simp
       obtain ⟨k, hk⟩ : ∃ k, bsz (todo.getD (todo.length - 1) default) = k + 1 := ⟨bsz (todo.getD (todo.length - 1) default) - 1, by omega⟩
       have p1 : 3 ^ bsz (spA p (todo.getD (todo.length - 1) default)) ≤ 3 ^ k := Nat.pow_le_pow_right (by decide) (by omega)
       have p2 : 3 ^ bsz (spB p (todo.getD (todo.length - 1) default)) ≤ 3 ^ k := Nat.pow_le_pow_right (by decide) (by omega)
       have p3 : (3 : Nat) ^ (k + 1) = 3 ^ k * 3 := Nat.pow_succ ..
       have p4 : 0 < 3 ^ k := Nat.pow_pos (by decide)
       rw [hk] at hone
       omega
      obtain ⟨i1, i2⟩ := ih _ _ hm2 hq
      refine ⟨i1, fun s hs => ?_⟩
      rw [hlast] at hs
      rcases List.mem_append.1 hs with hs | hs
      · exact i2 s (List.mem_append_left _ hs)
      · rw [List.mem_singleton.1 hs]
        exact ajy h hv (i2 _ (List.mem_append_right _ (by simp))) (i2 _ (List.mem_append_right _ (by simp)))
    · rw [if_neg hv] at hq
      obtain ⟨i1, i2⟩ := ih _ _ (by omega) hq
      refine ⟨fun q hq => i1 q (List.mem_append_left _ hq), fun s hs => ?_⟩
      rw [hlast] at hs
      rcases List.mem_append.1 hs with hs | hs
      · exact i2 s hs
      · rw [List.mem_singleton.1 hs]
        exact i1 _ (List.mem_append_right _ (by simp))
end
section
variable {n : Int} {p m : List Fd} {ps : List AS}
theorem aj4 (h0 : 0 ≤ n) {E : Int → Int → Prop} {R : Rw → Prop} (h : Mdl n.toNat p m E R) (hl : ∀ r, r ∈ be n ps → R r) {q : AS} (hq : q ∈ ps) : qk E R q := by
 obtain ⟨i, hi, e⟩ := qc hq
 refine ⟨stR n i q, hl _ ?_, fun c hc hh => ?_⟩
 · unfold be
   exact List.mem_map.2 ⟨i, List.mem_range.2 hi, by rw [e]⟩
 · rw [a1c] at hc
   rw [a52 hc]
   unfold stV
   rw [if_pos hh]
   exact h.refl _
theorem alo {c : Nat} (hc : c < n.toNat) : (ce n).getD c default = (c : Int) := by
 unfold ce
 rw [List.getD_eq_getElem?_getD, List.getElem?_map, List.getElem?_range hc]
 rfl
theorem anb {i : Nat} (h16 : n ≤ 16) (hi : i < n.toNat) : ct (bf n) (i : Int) = true := by
 rw [gl (by omega)]
 unfold bf
 rw [Nat.min_eq_left (by omega), kw _ _ (by omega)]
 exact decide_eq_true hi
theorem aiu (h16 : n ≤ 16) {E : Int → Int → Prop} {R : Rw → Prop} (h : Mdl n.toNat p m E R) (hf : qk E R (bf n)) : R (ce n) := by
 obtain ⟨r, hr, hh⟩ := hf
 have hl := h.len hr
 refine h.cong hr (by rw [xk, hl]) fun i hi => ?_
 rw [alo (by omega)]
 exact hh i hi (anb h16 (by omega))
theorem aas (h0 : 0 ≤ n) (h8 : d7 n p 8 = 0) : LR n.toNat p m (be n (jx n p)) (ce n) := fun E R hm hl => by
 obtain ⟨hv, hn8⟩ := jn h8
 refine aiu (by omega) hm ?_
 have hz := (xv h8).2.1
 refine (as6 hm 6562 [bf n] [] hz fun q hq => ?_).2 _ (by simp)
 rw [a4j h8] at hl
 obtain ⟨y, hy, hqy⟩ := a60 (show q ∈ xb n p from hq)
 exact (aj4 h0 hm hl hy).mono hqy
end
end Go.Hx
end
