/- A part of the proof: Cc1 Cc2 Cc3 Ls1 Cs24 V23 Cs26 V25 Cs27 V26. -/
import Derived.Test.YtidophngianjiaaGreatDoor10x22
import Derived.Test.YtidophngianjiaaGreatDoor10x32
set_option linter.all false
section
namespace Go.Hx
def AgE (E : Int → Int → Prop) (a b : Rw) (s : AS) : Prop := ∀ i : Nat, i < a.length → cn s (i : Int) = true → E (a.getD i default) (b.getD i default)
structure Mdl (N : Nat) (p m : List Fd) (E : Int → Int → Prop) (R : Rw → Prop) : Prop where
 refl : ∀ x, E x x
 symm : ∀ {x y}, E x y → E y x
 trans : ∀ {x y z}, E x y → E y z → E x z
 len : ∀ {r}, R r → r.length = N
 cong : ∀ {r r' : Rw}, R r → r'.length = r.length → (∀ i, i < r.length → E (r.getD i default) (r'.getD i default)) → R r'
 fd : ∀ {x}, x ∈ p → ∀ {a b}, R a → R b → AgE E a b x.lhs → AgE E a b x.rhs
 mv : ∀ {x}, x ∈ m → ∀ {a b}, R a → R b → AgE E a b x.lhs → R (da a b (x.lhs ||| x.rhs))
def LE (N : Nat) (p m : List Fd) (l : List Rw) (x y : Int) : Prop := ∀ E R, Mdl N p m E R → (∀ r, r ∈ l → R r) → E x y
def LR (N : Nat) (p m : List Fd) (l : List Rw) (r : Rw) : Prop := ∀ E R, Mdl N p m E R → (∀ r, r ∈ l → R r) → R r
theorem atk (N : Nat) (p m : List Fd) : Mdl N p m (fun _ _ => True) (fun r => r.length = N) :=
 ⟨fun _ => trivial, fun _ => trivial, fun _ _ => trivial, fun h => h, fun h e _ => e.trans h, fun _ _ _ _ _ _ _ _ _ => trivial, fun _ a b _ hb _ => (lq _ _ _).trans hb⟩
theorem a1c {N : Nat} {p m : List Fd} {l : List Rw} (hl : ∀ r, r ∈ l → r.length = N) : Mdl N p m (LE N p m l) (LR N p m l) where
 refl x := fun E R h _ => h.refl x
 symm h := fun E R k kl => k.symm (h E R k kl)
 trans h h2 := fun E R k kl => k.trans (h E R k kl) (h2 E R k kl)
 len h := h _ _ (atk N p m) hl
 cong h e h2 := fun E R k kl => k.cong (h E R k kl) e fun i hi => h2 i hi E R k kl
 fd hx _ _ ha hb hl := fun i hi hs E R k kl => k.fd hx (ha E R k kl) (hb E R k kl) (fun j hj hh => hl j hj hh E R k kl) i hi hs
 mv hx _ _ ha hb hl := fun E R k kl => k.mv hx (ha E R k kl) (hb E R k kl) fun j hj hh => hl j hj hh E R k kl
structure Ch (N : Nat) (p m : List Fd) (l0 l : List Rw) (σ : Int → Int) : Prop where
 rows : ∀ r, r ∈ l → LR N p m l0 r
 sym : ∀ s, LE N p m l0 s (σ s)
 img : ∀ r, r ∈ l0 → r.map σ ∈ l
 fix : ∀ r, r ∈ l → ∀ z, z ∈ r → σ z = z
 le : ∀ s, σ s ≤ s
section
variable {N : Nat} {p m : List Fd} {l0 l l' : List Rw} {σ σ' : Int → Int} {n : Int}
theorem Ch.start : Ch N p m l0 l0 id := ⟨fun r hr E R _ hl => hl r hr, fun s E R k _ => k.refl s, fun r hr => by rw [List.map_id]; exact hr, fun _ _ _ _ => rfl, fun s => Int.le_refl s⟩
theorem Ch.congr (h : Ch N p m l0 l σ) (e : ∀ r, r ∈ l' ↔ r ∈ l) : Ch N p m l0 l' σ :=
 ⟨fun r hr => h.rows r ((e r).1 hr), h.sym, fun r hr => (e _).2 (h.img r hr), fun r hr => h.fix r ((e r).1 hr), h.le⟩
def mf (hi lo z : Int) : Int := if z = hi then lo else z
theorem j2 {f : Int → Int} {r : Rw} {i : Nat} (h : i < r.length) : (r.map f).getD i default = f (r.getD i default) := by
 rw [List.getD_eq_getElem?_getD, List.getElem?_map, List.getElem?_eq_getElem h, List.getD_eq_getElem?_getD, List.getElem?_eq_getElem h]
 rfl
theorem Ch.sub (hl0 : ∀ r, r ∈ l0 → r.length = N) (h : Ch N p m l0 l σ) {hi lo : Int} (hE : LE N p m l0 hi lo) (hle : lo ≤ hi) (hin : ∃ r, r ∈ l ∧ lo ∈ r) : Ch N p m l0 (l.map fun r => r.map (mf hi lo)) (fun s => mf hi lo (σ s)) := by
 have hm := a1c (p := p) (m := m) hl0
 have hs : ∀ z, LE N p m l0 z (mf hi lo z) := fun z => by
  unfold mf
  split
  · rename_i e; rw [e]; exact hE
  · exact hm.refl z
 refine ⟨fun r hr => ?_, fun s => hm.trans (h.sym s) (hs _), fun r hr => ?_, fun r hr z hz => ?_, fun s => ?_⟩
 · obtain ⟨r0, h0, rfl⟩ := List.mem_map.1 hr
   exact hm.cong (h.rows r0 h0) (by simp) fun i hi => by rw [j2 hi]; exact hs _
 · refine List.mem_map.2 ⟨_, h.img r hr, ?_⟩
   rw [List.map_map]
   rfl
 · obtain ⟨r0, h0, rfl⟩ := List.mem_map.1 hr
   obtain ⟨y, hy, rfl⟩ := List.mem_map.1 hz
   obtain ⟨r1, h1, h2⟩ := hin
   have e1 := h.fix r0 h0 y hy
   have e2 := h.fix r1 h1 lo h2
   by_cases e : y = hi
   · have e3 : mf hi lo y = lo := if_pos e
     show mf hi lo (σ (mf hi lo y)) = mf hi lo y
     rw [e3, e2]
     unfold mf
     split <;> rfl
   · have e3 : mf hi lo y = y := if_neg e
     show mf hi lo (σ (mf hi lo y)) = mf hi lo y
     rw [e3, e1, e3]
 · have h1 := h.le s
   have h2 : mf hi lo (σ s) ≤ σ s := by
    unfold mf
    split <;> omega
   exact Int.le_trans h2 h1
theorem agv {M : Nat → Nat → Int} {a b j : Nat} : d9 l (eqM M a b j) = (d9 l M).map fun r => r.map (mf (hiI (M a j) (M b j)) (loI (M a j) (M b j))) := by
 unfold d9
 rw [List.map_map]
 refine List.map_congr_left fun i _ => ?_
 show _ = List.map _ (List.map _ _)
 rw [List.map_map]
 rfl
theorem an2 {M : Nat → Nat → Int} {a j : Nat} (ha : a < l.length) (hj : j < (l.getD a default).length) : ∃ r, r ∈ d9 l M ∧ M a j ∈ r :=
 a31.2 ⟨a, j, ha, hj, rfl⟩
theorem Ch.eqMs (hl0 : ∀ r, r ∈ l0 → r.length = N) {a b : Nat} (ha : a < l.length) (hb : b < l.length) : ∀ {js : List Nat} {M : Nat → Nat → Int} {σ : Int → Int}, Ch N p m l0 (d9 l M) σ → (∀ j, j ∈ js → j < (l.getD a default).length ∧ j < (l.getD b default).length ∧ LE N p m l0 (M a j) (M b j)) →
 ∃ σ', Ch N p m l0 (d9 l (eqMs M a b js)) σ'
 | [], M, σ, h, _ => ⟨σ, h⟩
 | j :: js, M, σ, h, hj => by
  obtain ⟨h1, h2, h3⟩ := hj j (by simp)
  have hm := a1c (p := p) (m := m) hl0
  have hlo : loI (M a j) (M b j) ≤ hiI (M a j) (M b j) := by unfold loI hiI; split <;> split <;> omega
  have hE : LE N p m l0 (hiI (M a j) (M b j)) (loI (M a j) (M b j)) := by
   rcases arf (M a j) (M b j) with e | e <;> rcases aht (M a j) (M b j) with f | f <;> rw [e, f]
   · exact hm.refl _
   · exact h3
   · exact hm.symm h3
   · exact hm.refl _
  have hin : ∃ r, r ∈ d9 l M ∧ loI (M a j) (M b j) ∈ r := by
   rcases aht (M a j) (M b j) with f | f <;> rw [f]
   · exact an2 ha h1
   · exact an2 hb h2
  have hq := h.sub hl0 hE hlo hin
  rw [← agv] at hq
  have hs : ∀ z, LE N p m l0 z (if z = hiI (M a j) (M b j) then loI (M a j) (M b j) else z) := fun z => by
   split
   · rename_i e; rw [e]; exact hE
   · exact hm.refl z
  exact Ch.eqMs hl0 ha hb (js := js) hq fun k hk => by
   obtain ⟨h4, h5, h6⟩ := hj k (by simp [hk])
   exact ⟨h4, h5, hm.trans (hm.symm (hs (M a k))) (hm.trans h6 (hs (M b k)))⟩
theorem ae8 : d9 l (bz l) = l := by
 refine kb (ji _ _) fun i hi => ?_
 rw [ji] at hi
 rw [a8h hi]
 refine kb (by simp) fun k hk => ?_
 simp only [List.length_map, List.length_range] at hk
 rw [List.getD_eq_getElem?_getD, List.getElem?_map, List.getElem?_range hk]
 rfl
theorem ai9 (hl0 : ∀ r, r ∈ l0 → r.length = N) {a b : Rw} {s : AS} (h : j0 a b s = true) : AgE (LE N p m l0) a b s := fun i hi hs => by
 rw [of_decide_eq_true h i hi hs]
 exact (a1c hl0).refl _
theorem d7 {α : Type} [Inhabited α] {l : List α} {i : Nat} (h : i < l.length) : l.getD i default ∈ l := by
 rw [List.getD_eq_getElem?_getD, List.getElem?_eq_getElem h]
 exact List.getElem_mem h
theorem ao2 {a b : Rw} {s : AS} (hl : a.length = b.length) {z : Int} (hz : z ∈ da a b s) : z ∈ a ∨ z ∈ b := by
 unfold da at hz
 rw [List.mem_map] at hz
 obtain ⟨i, hi, rfl⟩ := hz
 have hi := List.mem_range.1 hi
 split
 · exact .inl (d7 (by omega))
 · exact .inr (d7 hi)
def ay5 (l : List Rw) (p m : List Fd) (s : St) : Prop := s.2.2.1 < l.length ∧ s.2.2.2 < l.length ∧ (s.1 = false → s.2.1 < p.length) ∧ (s.1 = true → s.2.1 < m.length)
theorem Ch.app (hl0 : ∀ r, r ∈ l0 → r.length = n.toNat) (hT : tok n l = true) (hp : p.all (inU n) = true) (h : Ch n.toNat p m l0 l σ) {s : St} (hs : ay5 l p m s) (he : (dj n l p m s).2.2 = 0) :
 (dj n l p m s).1 = n ∧ ∃ σ', Ch n.toNat p m l0 (dj n l p m s).2.1 σ' := by
 obtain ⟨mu, i, a, b⟩ := s
 obtain ⟨ha, hb, hf, hv⟩ := hs
 obtain ⟨h0, h1, h2, h3⟩ := gn hT
 have ha : a < l.length := ha
 have hb : b < l.length := hb
 have hra := h3 a ha
 have hrb := h3 b hb
 cases mu with
 | false =>
  have hi : i < p.length := hf rfl
  have e0 : dj n l p m (false, i, a, b) = fdE n l a b (p.getD i default) := rfl
  rw [e0] at he ⊢
  by_cases hg : j0 (l.getD a default) (l.getD b default) (p.getD i default).lhs = true
  · have e1 : fdE n l a b (p.getD i default) = (n, b4 (d9 l (Go.Hx.eqMs (bz l) a b (b5 (p.getD i default).rhs))), 0) := if_pos hg
    rw [e1]
    refine ⟨rfl, ?_⟩
    have hu : inU n (p.getD i default) = true := List.all_eq_true.1 hp _ (d7 hi)
    have hm := a1c (p := p) (m := m) hl0
    have hR := hm.fd (d7 hi) (h.rows _ (d7 ha)) (h.rows _ (d7 hb)) (ai9 hl0 hg)
    obtain ⟨σ', hσ⟩ := Ch.eqMs (p := p) (m := m) hl0 ha hb (js := b5 (p.getD i default).rhs) (M := bz l) (σ := σ) (by rw [ae8]; exact h) fun j hj => by
     have h4 := a1w h0 h1 hu hj
     have h5 := ip.1 hj
     refine ⟨Nat.lt_of_lt_of_eq h4 hra.symm, Nat.lt_of_lt_of_eq h4 hrb.symm, hR j (Nat.lt_of_lt_of_eq h4 hra.symm) (by rw [ff h5.1]; exact h5.2)⟩
    exact ⟨σ', hσ.congr fun r => fg⟩
  · have e1 : fdE n l a b (p.getD i default) = (0, [], 1) := if_neg hg
    rw [e1] at he
    exact absurd he (by decide)
 | true =>
  have hi : i < m.length := hv rfl
  have e0 : dj n l p m (true, i, a, b) = mvE n l a b (m.getD i default) := rfl
  rw [e0] at he ⊢
  by_cases hg : j0 (l.getD a default) (l.getD b default) (m.getD i default).lhs = true
  · have e1 : mvE n l a b (m.getD i default) = pf n l (da (l.getD a default) (l.getD b default) ((m.getD i default).lhs ||| (m.getD i default).rhs)) := if_pos hg
    rw [e1] at he ⊢
    by_cases hbig : 256 < (b4 (l ++ [da (l.getD a default) (l.getD b default) ((m.getD i default).lhs ||| (m.getD i default).rhs)])).length
    · have e2 : pf n l (da (l.getD a default) (l.getD b default) ((m.getD i default).lhs ||| (m.getD i default).rhs)) = (0, [], 3) := if_pos hbig
      rw [e2] at he
      exact absurd he (by decide)
    · have e2 : pf n l (da (l.getD a default) (l.getD b default) ((m.getD i default).lhs ||| (m.getD i default).rhs)) = (n, b4 (l ++ [da (l.getD a default) (l.getD b default) ((m.getD i default).lhs ||| (m.getD i default).rhs)]), 0) := if_neg hbig
      rw [e2]
      refine ⟨rfl, σ, ?_⟩
      have hm := a1c (p := p) (m := m) hl0
      have hR := hm.mv (d7 hi) (h.rows _ (d7 ha)) (h.rows _ (d7 hb)) (ai9 hl0 hg)
      refine ⟨fun r hr => ?_, h.sym, fun r hr => fg.2 (List.mem_append_left _ (h.img r hr)), fun r hr z hz => ?_, h.le⟩
      · rcases List.mem_append.1 (fg.1 hr) with h4 | h4
        · exact h.rows r h4
        · rw [List.mem_singleton.1 h4]; exact hR
      · rcases List.mem_append.1 (fg.1 hr) with h4 | h4
        · exact h.fix r h4 z hz
        · rw [List.mem_singleton.1 h4] at hz
          rcases ao2 (by omega) hz with h5 | h5
          · exact h.fix _ (d7 ha) z h5
          · exact h.fix _ (d7 hb) z h5
  · have e1 : mvE n l a b (m.getD i default) = (0, [], 1) := if_neg hg
    rw [e1] at he
    exact absurd he (by decide)
theorem a4t {P : Nat → Nat → Nat → Bool} {I L : Nat} (h : ek P I L = none) {i a b : Nat} (hi : i < I) (ha : a < L) (hb : b < L) : P i a b = false := by
 unfold ek at h
 rw [List.findSome?_eq_none_iff] at h
 have h1 := h i (List.mem_range.2 hi)
 rw [List.findSome?_eq_none_iff] at h1
 have h2 := h1 a (List.mem_range.2 ha)
 rw [Option.map_eq_none_iff, List.find?_eq_none] at h2
 exact Bool.eq_false_iff.2 (h2 b (List.mem_range.2 hb))
theorem ak5 (h : dm l p m = none) : (∀ i, i < p.length → ∀ a, a < l.length → ∀ b, b < l.length → dv l (p.getD i default) a b = false) ∧ ∀ i, i < m.length → ∀ a, a < l.length → ∀ b, b < l.length → ef l (m.getD i default) a b = false := by
 unfold dm at h
 split at h
 · cases h
 · rename_i e
   rw [Option.map_eq_none_iff] at h
   exact ⟨fun i hi a ha b hb => a4t (P := fun i a b => dv l (p.getD i default) a b) e hi ha hb, fun i hi a ha b hb => a4t (P := fun i a b => ef l (m.getD i default) a b) h hi ha hb⟩
theorem mw {α : Type} [Inhabited α] {l : List α} {x : α} (h : x ∈ l) : ∃ i, i < l.length ∧ l.getD i default = x := by
 obtain ⟨i, hi, rfl⟩ := List.getElem_of_mem h
 exact ⟨i, hi, by rw [List.getD_eq_getElem?_getD, List.getElem?_eq_getElem hi]; rfl⟩
theorem ar7 {f : Int → Int} {a b : Rw} {s : AS} (hl : a.length = b.length) : da (a.map f) (b.map f) s = (da a b s).map f := by
 unfold da
 rw [List.map_map, List.length_map]
 refine List.map_congr_left fun i hi => ?_
 have hi := List.mem_range.1 hi
 show _ = f (if cn s (i : Int) = true then a.getD i default else b.getD i default)
 split
 · rw [j2 (by omega)]
 · rw [j2 hi]
theorem Ch.mdl (hT : tok n l = true) (hn : dm l p m = none) (σ : Int → Int) : Mdl n.toNat p m (fun x y => σ x = σ y) (fun r => r.length = n.toNat ∧ r.map σ ∈ l) := by
 obtain ⟨hF, hM⟩ := ak5 hn
 refine ⟨fun _ => rfl, fun h => h.symm, fun h k => h.trans k, fun h => h.1, fun {r r'} h e h2 => ⟨e.trans h.1, ?_⟩, fun {x} hx {a b} ha hb hl i hi hs => ?_, fun {x} hx {a b} ha hb hl => ⟨(lq _ _ _).trans hb.1, ?_⟩⟩
 · have : r'.map σ = r.map σ := by
    refine kb (by simp [e]) fun i hi => ?_
    rw [List.length_map] at hi
    rw [j2 hi, j2 (by omega)]
    exact (h2 i (by omega)).symm
   rw [this]; exact h.2
 · obtain ⟨k, hk, rfl⟩ := mw hx
   obtain ⟨ia, hia, ea⟩ := mw ha.2
   obtain ⟨ib, hib, eb⟩ := mw hb.2
   have h1 := hF k hk ia hia ib hib
   unfold dv at h1
   rw [ea, eb, wg (fun j hj hs => by rw [List.length_map] at hj; rw [j2 hj, j2 (by rw [hb.1, ← ha.1]; exact hj)]; exact hl j hj hs), Bool.true_and, Bool.not_eq_false'] at h1
   have h2 := of_decide_eq_true h1 i (by rw [List.length_map]; exact hi) hs
   rw [j2 hi, j2 (by rw [hb.1, ← ha.1]; exact hi)] at h2
   exact h2
 · obtain ⟨k, hk, rfl⟩ := mw hx
   obtain ⟨ia, hia, ea⟩ := mw ha.2
   obtain ⟨ib, hib, eb⟩ := mw hb.2
   have h1 := hM k hk ia hia ib hib
   unfold ef at h1
   rw [ea, eb, wg (fun j hj hs => by rw [List.length_map] at hj; rw [j2 hj, j2 (by rw [hb.1, ← ha.1]; exact hj)]; exact hl j hj hs), Bool.true_and, Bool.not_eq_false'] at h1
   obtain ⟨r, hr, e⟩ := List.any_eq_true.1 h1
   rw [← ar7 (by rw [ha.1, hb.1]), ← of_decide_eq_true e]
   exact hr
theorem Ch.has (h : Ch n.toNat p m l0 l σ) (hT : tok n l = true) (hl0 : ∀ r, r ∈ l0 → r.length = n.toNat) (hn : dm l p m = none) : (∀ x y, LE n.toNat p m l0 x y → σ x = σ y) ∧ ∀ r, LR n.toNat p m l0 r → r.map σ ∈ l := by
 have hm := Ch.mdl (p := p) (m := m) hT hn σ
 have hl : ∀ r, r ∈ l0 → r.length = n.toNat ∧ r.map σ ∈ l := fun r hr => ⟨hl0 r hr, h.img r hr⟩
 exact ⟨fun x y e => e _ _ hm hl, fun r e => (e _ _ hm hl).2⟩
theorem a81 {f : Int → Int} : ∀ {r : Rw}, (∀ z, z ∈ r → f z = z) → r.map f = r
 | [], _ => rfl
 | z :: r, h => by rw [List.map_cons, h z (by simp), a81 fun y hy => h y (by simp [hy])]
theorem Ch.mem (h : Ch n.toNat p m l0 l σ) (hT : tok n l = true) (hl0 : ∀ r, r ∈ l0 → r.length = n.toNat) (hn : dm l p m = none) {r : Rw} : r ∈ l ↔ LR n.toNat p m l0 r ∧ r.map σ = r := by
 constructor
 · intro hr
   exact ⟨h.rows r hr, a81 (h.fix r hr)⟩
 · rintro ⟨h1, h2⟩
   rw [← h2]
   exact (h.has hT hl0 hn).2 r h1
end
end Go.Hx
end
section
namespace Go.Hx
def b0x : List (List Int) → List Rw
 | [] => [[]]
 | c :: cs => c.flatMap fun z => (b0x cs).map fun r => z :: r
section
variable {N : Nat} {p m : List Fd} {l0 l : List Rw}
theorem awy {a b : Rw} {s : AS} {i : Nat} (h : i < b.length) : (da a b s).getD i default = if cn s (i : Int) = true then a.getD i default else b.getD i default := by
 unfold da
 rw [List.getD_eq_getElem?_getD, List.getElem?_map, List.getElem?_range h]
 rfl
theorem ard (C : Nat → List Int) (hd : ∀ i j z, z ∈ C i → z ∈ C j → i = j) : Mdl N p m (fun x y => x = y ∨ ∃ i, x ∈ C i ∧ y ∈ C i) (fun r => r.length = N ∧ ∀ i, i < N → r.getD i default ∈ C i) where
 refl _ := .inl rfl
 symm h := by
  rcases h with h | ⟨i, h, k⟩
  · exact .inl h.symm
  · exact .inr ⟨i, k, h⟩
 trans h h2 := by
  rcases h with h | ⟨i, h, k⟩
  · rw [h]; exact h2
  · rcases h2 with h2 | ⟨j, h2, k2⟩
    · rw [← h2]; exact .inr ⟨i, h, k⟩
    · have := hd i j _ k h2
      subst this
      exact .inr ⟨i, h, k2⟩
 len h := h.1
 cong h e h2 := ⟨e.trans h.1, fun i hi => by
  have h3 := h.2 i hi
  rcases h2 i (by rw [h.1]; exact hi) with h4 | ⟨j, h4, h5⟩
  · rw [← h4]; exact h3
  · have := hd i j _ h3 h4
    subst this
    exact h5⟩
 fd _ a b ha hb _ := fun i hi _ => .inr ⟨i, ha.2 i (by rw [← ha.1]; exact hi), hb.2 i (by rw [← ha.1]; exact hi)⟩
 mv _ a b ha hb _ := ⟨(lq _ _ _).trans hb.1, fun i hi => by
  rw [awy (by rw [hb.1]; exact hi)]
  split
  · exact ha.2 i hi
  · exact hb.2 i hi⟩
def b1a (N : Nat) (p m : List Fd) (l0 : List Rw) : Prop := ∀ l, lr l → (∀ r, r ∈ l → LR N p m l0 r) → l.length ≤ 256
end
section
variable {p m : List Fd} {l0 l : List Rw} {n : Int} {σ : Int → Int}
theorem aeq {s : St} (h : vi l p m s) : ay5 l p m s := by
 obtain ⟨h1, h2, h3⟩ := h
 refine ⟨h1, h2, fun e => ?_, fun e => ?_⟩
 · rcases h3 with ⟨_, h, _⟩ | ⟨h, _⟩
   · exact h
   · rw [e] at h; cases h
 · rcases h3 with ⟨h, _⟩ | ⟨_, h, _⟩
   · rw [e] at h; cases h
   · exact h
theorem Ch.code (h0 : tok n l0 = true) (hS : b1a n.toNat p m l0) (hp : p.all (inU n) = true) (hT : tok n l = true) (h : Ch n.toNat p m l0 l σ) {s : St} (hs : vi l p m s) : (dj n l p m s).2.2 = 0 := by
 rcases ab5 hT hp hs with e | ⟨l', e, _⟩
 · obtain ⟨mu, i, a, b⟩ := s
   obtain ⟨ha, hb, hs | hs⟩ := hs
   · obtain ⟨h1, h2, h3⟩ := hs
     cases h1
     have h4 : dj n l p m (false, i, a, b) = fdE n l a b (p.getD i default) := rfl
     have hg := (ah1 hT (List.all_eq_true.1 hp _ (d7 h2)) ha hb h3).1
     have hg : fdE n l a b (p.getD i default) = (n, fdL l a b (p.getD i default), 0) := hg
     rw [h4, hg] at e ⊢
   · obtain ⟨h1, h2, h3⟩ := hs
     cases h1
     have h4 : dj n l p m (true, i, a, b) = mvE n l a b (m.getD i default) := rfl
     have h5 : ef l (m.getD i default) a b = true := h3
     unfold ef at h5
     rw [Bool.and_eq_true] at h5
     have h6 : mvE n l a b (m.getD i default) = pf n l (da (l.getD a default) (l.getD b default) ((m.getD i default).lhs ||| (m.getD i default).rhs)) := if_pos h5.1
     have hl0 : ∀ r, r ∈ l0 → r.length = n.toNat := fun r hr => (s5 h0 r hr).1
     have h7 := hS (b4 (l ++ [da (l.getD a default) (l.getD b default) ((m.getD i default).lhs ||| (m.getD i default).rhs)])) (gf _) fun r hr => by
      rcases List.mem_append.1 (fg.1 hr) with h8 | h8
      · exact h.rows r h8
      · rw [List.mem_singleton.1 h8]
        exact (a1c hl0).mv (d7 h2) (h.rows _ (d7 ha)) (h.rows _ (d7 hb)) (ai9 hl0 h5.1)
     rw [h4, h6]
     unfold pf
     rw [if_neg (by omega)]
 · rw [e]
def TrZ (n : Int) (p m : List Fd) (lend : List Rw) : List Rw → List St → Prop
 | l, [] => l = lend
 | l, s :: r => tok n l = true ∧ vi l p m s ∧ ∃ l', dj n l p m s = (n, l', 0) ∧ ¬ l' = l ∧ TrZ n p m lend l' r
end
def stC (n : Int) (ps : List AS) (c : Nat) : List Int := if c < n.toNat then (List.range ps.length).map fun i => stV n i (ps.getD i default) c else []
section
variable {n : Int} {ps : List AS} {p m : List Fd}
theorem aw7 (h0 : 0 ≤ n) {i c : Nat} {q : AS} (hc : c < n.toNat) : stV n i q c % n = (c : Int) := by
 unfold stV
 split
 · exact Int.emod_eq_of_lt (by omega) (by omega)
 · have e : n + (i : Int) * n + (c : Int) = (c : Int) + n * (1 + (i : Int)) := by rw [Int.mul_add, Int.mul_one, Int.mul_comm (i : Int) n]; omega
   rw [e, Int.add_mul_emod_self_left]
   exact Int.emod_eq_of_lt (by omega) (by omega)
theorem a7v (h0 : 0 ≤ n) {c : Nat} {z : Int} (h : z ∈ stC n ps c) : c < n.toNat ∧ z % n = (c : Int) := by
 unfold stC at h
 split at h
 · rename_i hc
   obtain ⟨i, _, rfl⟩ := List.mem_map.1 h
   exact ⟨hc, aw7 h0 hc⟩
 · simp at h
theorem au7 (h0 : 0 ≤ n) : ∀ i j z, z ∈ stC n ps i → z ∈ stC n ps j → i = j := fun i j z h k => by
 have h1 := (a7v h0 h).2
 have h2 := (a7v h0 k).2
 omega
theorem a61 {r : Rw} (hr : r ∈ bg n ps) : r.length = n.toNat ∧ ∀ i, i < n.toNat → r.getD i default ∈ stC n ps i := by
 unfold bg at hr
 obtain ⟨k, hk, rfl⟩ := List.mem_map.1 hr
 refine ⟨a0w _ _ _, fun i hi => ?_⟩
 rw [a52 hi]
 unfold stC
 rw [if_pos hi]
 exact List.mem_map.2 ⟨k, hk, rfl⟩
end
end Go.Hx
end
section
namespace Go.Hx
section
variable {n : Int} {ps : List AS} {p m : List Fd} {l l0 : List Rw} {σ : Int → Int}
theorem b05 {N : Nat} {l l' : List Rw} (h : ∀ r, r ∈ l ↔ r ∈ l') {r : Rw} : LR N p m l r ↔ LR N p m l' r :=
 ⟨fun k E R hm hl => k E R hm fun r hr => hl r ((h r).1 hr), fun k E R hm hl => k E R hm fun r hr => hl r ((h r).2 hr)⟩
theorem ajb (h0 : 0 ≤ n) {c : Nat} {z : Int} (h : z ∈ stC n ps c) : z = (c : Int) ∨ n ≤ z := by
 unfold stC at h
 split at h
 · obtain ⟨i, _, rfl⟩ := List.mem_map.1 h
   unfold stV
   split
   · exact .inl rfl
   · right
     have := Int.mul_nonneg (show (0 : Int) ≤ (i : Int) by omega) h0
     omega
 · simp at h
theorem Ch.first (h0 : 0 ≤ n) (h : Ch n.toNat p m (b4 (bg n ps)) l σ) : (cg n).map σ = cg n := by
 refine a81 fun z hz => ?_
 unfold cg at hz
 obtain ⟨c, hc, rfl⟩ := List.mem_map.1 hz
 have hc := List.mem_range.1 hc
 have h1 := h.sym (c : Int) _ _ (ard (stC n ps) (au7 h0)) fun r hr => a61 (fg.1 hr)
 rcases h1 with h1 | ⟨i, h1, h2⟩
 · exact h1.symm
 · have h3 := (a7v h0 h1).2
   have h4 := Int.emod_eq_of_lt (a := (c : Int)) (b := n) (by omega) (by omega)
   have h5 : i = c := by omega
   subst h5
   have h6 := h.le (i : Int)
   rcases ajb h0 h2 with h7 | h7
   · exact h7
   · omega
theorem up {r : Rw} : (l.any fun x => decide (x = r)) = decide (r ∈ l) := by
 rw [Bool.eq_iff_iff, List.any_eq_true, decide_eq_true_iff]
 constructor
 · rintro ⟨x, hx, e⟩
   rw [← of_decide_eq_true e]; exact hx
 · intro h
   exact ⟨r, h, decide_eq_true rfl⟩
def swI (n z : Int) : Int := if n ≤ z ∧ z < 2 * n then z + n else if 2 * n ≤ z ∧ z < 3 * n then z - n else z
abbrev b3y (n : Int) (x : Fd) : Fd := ⟨x.lhs, aq n &&& ~~~(x.lhs ||| x.rhs)⟩
end
end Go.Hx
end
section
namespace Go.Hx
section
variable {n : Int} {p m : List Fd} {l0 l : List Rw} {σ : Int → Int}
theorem aog (hT : tok n l = true) (hp : p.all (inU n) = true) (hm : m = []) {s : St} (hs : vi l p m s) : (dj n l p m s).2.2 = 0 := by
 obtain ⟨mu, i, a, b⟩ := s
 obtain ⟨ha, hb, hs | hs⟩ := hs
 · obtain ⟨h1, h2, h3⟩ := hs
   cases h1
   have h4 : dj n l p m (false, i, a, b) = fdE n l a b (p.getD i default) := rfl
   have hg : fdE n l a b (p.getD i default) = (n, fdL l a b (p.getD i default), 0) := (ah1 hT (List.all_eq_true.1 hp _ (d7 h2)) ha hb h3).1
   rw [h4, hg]
 · obtain ⟨_, h2, _⟩ := hs
   subst hm
   exact absurd h2 (Nat.not_lt_zero _)
theorem ajy (hl0 : ∀ r, r ∈ l0 → r.length = n.toNat) (hp : p.all (inU n) = true) (Z : List Int) : ∀ (F : Nat) (l : List Rw) (acc : List St) (σ : Int → Int), tok n l = true → Ch n.toNat p m l0 l σ → Cov Z l → muC Z l < F →
 (gh F n l p m acc = ([], (0, []), 3) ∧ ¬ m = []) ∨ ∃ sts lend σ', gh F n l p m acc = (acc ++ sts, (n, lend), 0) ∧ Ch n.toNat p m l0 lend σ' ∧ tok n lend = true ∧ dm lend p m = none ∧ TrZ n p m lend l sts := by
 intro F
 induction F with
 | zero => intro _ _ _ _ _ _ h; exact absurd h (Nat.not_lt_zero _)
 | succ F ih =>
  intro l acc σ hT hC hZ hF
  cases hn : dm l p m with
  | none => exact .inr ⟨[], l, σ, by rw [a4l (by omega) hn, List.append_nil], hC, hT, hn, rfl⟩
  | some s =>
   have hs := a1a hn
   rcases ab5 hT hp hs with e | ⟨l', e, hT', h3⟩
   · left
     refine ⟨a5z (by omega) hn e (by decide), fun hm => ?_⟩
     have := aog hT hp hm hs
     rw [e] at this
     exact absurd this (by decide)
   · obtain ⟨h4, h5⟩ := h3 Z hZ
     obtain ⟨_, σ', hC'⟩ := Ch.app hl0 hT hp hC (aeq hs) (by rw [e])
     rw [e] at hC'
     rcases ih l' (acc ++ [s]) σ' hT' hC' h4 (by omega) with ⟨q, q0⟩ | ⟨sts, lend, σ2, q1, q2, q3, q4, q5⟩
     · left
       exact ⟨by rw [vj (by omega) hn e, Nat.add_sub_cancel, q], q0⟩
     · right
       refine ⟨s :: sts, lend, σ2, ?_, q2, q3, q4, hT, hs, l', e, fun e => ?_, q5⟩
       · rw [vj (by omega) hn e, Nat.add_sub_cancel, q1, List.append_assoc]
         rfl
       · subst e
         omega
theorem al5 (hT : tok n l = true) (hb : cu n p m = 0) : (gj FU n l p m = ([], (0, []), 3) ∧ ¬ m = []) ∨ ∃ sts lend σ, gj FU n l p m = (sts, (n, lend), 0) ∧ Ch n.toNat p m l lend σ ∧ tok n lend = true ∧ dm lend p m = none ∧ TrZ n p m lend l sts := by
 have hck : ckE n l p m = 0 := (if_pos hT).trans hb
 rw [ph hck]
 rcases ajy (fun r hr => (s5 hT r hr).1) (sc hb).2.2.2.1 l.flatten FU l [] id hT Ch.start (adk l) (ab3 hT) with h | ⟨sts, lend, σ', q1, q⟩
 · exact .inl h
 · exact .inr ⟨sts, lend, σ', by rw [q1, List.nil_append], q⟩
def trL (n : Int) (p m : List Fd) : List Rw → List St → List (List Rw)
 | l, [] => [l]
 | l, s :: r => l :: trL n p m (dj n l p m s).2.1 r
theorem a83 : ∀ {sts : List St} {l : List Rw}, (trL n p m l sts).length = sts.length + 1
 | [], _ => rfl
 | s :: r, l => by unfold trL; rw [List.length_cons, a83, List.length_cons]
theorem ace : ∀ {sts : List St} {l lend : List Rw}, TrZ n p m lend l sts → lend ∈ trL n p m l sts
 | [], l, lend, h => by
  have h : l = lend := h
  subst h
  simp [trL]
 | s :: r, l, lend, h => by
  obtain ⟨_, _, l', e, _, h⟩ := h
  unfold trL
  rw [e]
  exact List.mem_cons_of_mem _ (ace h)
theorem amp (hl0 : ∀ r, r ∈ l0 → r.length = n.toNat) (hp : p.all (inU n) = true) : ∀ {sts : List St} {l lend : List Rw} {σ : Int → Int}, TrZ n p m lend l sts → tok n lend = true → Ch n.toNat p m l0 l σ → ∀ t, t ∈ trL n p m l sts → ∃ σ, Ch n.toNat p m l0 t σ
 | [], l, lend, σ, h, _, hC, t, ht => by
  rw [List.mem_singleton.1 (show t ∈ [l] from ht)]
  exact ⟨σ, hC⟩
 | s :: r, l, lend, σ, h, hTe, hC, t, ht => by
  obtain ⟨hT, hs, l', e, _, h⟩ := h
  unfold trL at ht
  rw [e] at ht
  rcases List.mem_cons.1 ht with rfl | ht
  · exact ⟨σ, hC⟩
  · obtain ⟨_, σ', hC'⟩ := Ch.app hl0 hT hp hC (aeq hs) (by rw [e])
    rw [e] at hC'
    exact amp hl0 hp h hTe hC' t ht
end
section
variable {n : Int} {ps : List AS} {p m : List Fd}
theorem a58 (h0 : 0 ≤ n) (h16 : n ≤ 16) (hk : ps.length ≤ 64) : tok n (b4 (bg n ps)) = true := by
 refine z7 h0 h16 ?_ fun r hr => ?_
 · have := ut (bg n ps)
   rw [md] at this
   omega
 · obtain ⟨h1, h2⟩ := a61 hr
   refine ⟨h1, fun z hz => ?_⟩
   obtain ⟨i, hi, rfl⟩ := mw hz
   rcases ajb h0 (h2 i (by omega)) with h3 | h3 <;> omega
theorem a08 (hk : ps.length ≤ 64) (hb : cu n p m = 0) :
 (gj FU n (b4 (bg n ps)) p m = ([], (0, []), 3) ∧ ¬ m = []) ∨ ∃ sts lend, gj FU n (b4 (bg n ps)) p m = (sts, (n, lend), 0) ∧ (cg n ∈ lend ↔ LR n.toNat p m (bg n ps) (cg n)) ∧
  TrZ n p m lend (b4 (bg n ps)) sts ∧ tok n lend = true ∧ ((∃ t, t ∈ trL n p m (b4 (bg n ps)) sts ∧ cg n ∈ t) ↔ cg n ∈ lend) := by
 obtain ⟨h0, h16, _, hp, _⟩ := sc hb
 have hT := a58 h0 h16 hk
 have hl0 : ∀ r, r ∈ b4 (bg n ps) → r.length = n.toNat := fun r hr => (s5 hT r hr).1
 rcases al5 hT hb with h | ⟨sts, lend, σ, h1, h2, h3, h4, h5⟩
 · exact .inl h
 · right
   have hf : cg n ∈ lend ↔ LR n.toNat p m (b4 (bg n ps)) (cg n) := by
    rw [h2.mem h3 hl0 h4]
    exact ⟨fun h => h.1, fun h => ⟨h, h2.first h0⟩⟩
   refine ⟨sts, lend, h1, by rw [hf, b05 (l' := bg n ps) fun r => fg], h5, h3, ?_⟩
   constructor
   · rintro ⟨t, ht, hft⟩
     obtain ⟨σ', hC⟩ := amp hl0 hp h5 h3 Ch.start t ht
     exact hf.2 (hC.rows _ hft)
   · intro h
     exact ⟨lend, ace h5, h⟩
end
end Go.Hx
end
section
namespace Go.Hx
section
variable {n : Int} {l : List Fd}
theorem afo (h : av n l = 0) : ∀ f ∈ l, sub f.lhs (aq n) ∧ sub f.rhs (aq n) := fun f hf => by
 obtain ⟨h0, h1, _, h3⟩ := cr h
 exact (l4 h0 h1).1 (List.all_eq_true.1 h3 f hf)
theorem ae2 (h : av n l = 0) : l5 l (aq n) := fun f hf _ => (afo h f hf).2
theorem sv (h : av n l = 0) {x : AS} (hx : sub x (aq n)) : sub (clo l x) (aq n) := gu (ae2 h) hx
end
theorem vm {α β : Type} [Inhabited α] {f : α → β} {l : List α} {i : Nat} (h : i < l.length) : (l.take (i + 1)).map f = (l.take i).map f ++ [f (l.getD i default)] := by
 rw [bt h, List.map_append]
 rfl
structure Dps where
 n : BitVec 8
 l : List Dp
deriving Inhabited
def Dps.num (d : Dps) : Int := ((d.n.toNat % 7 : Nat) : Int)
def Dps.fds (d : Dps) : List Fd := d.l.map (Dp.fd d.num)
def Dps.c (d : Dps) : Nat → PV
 | 0 => .raw (.int .u8 (d.n.toNat : Int))
 | 1 => dpl d.l
 | _ => .any
abbrev Dps.pc (d : Dps) : PC := .agg [d.c 0, d.c 1]
theorem az0 (d : Dps) : 0 ≤ d.num ∧ d.num ≤ 6 := by unfold Dps.num; omega
theorem wv {d : Dps} (h : d.l.length ≤ 6) : av d.num d.fds = 0 := by
 obtain ⟨h0, h1⟩ := az0 d
 unfold av
 rw [if_neg (by omega), if_neg (by unfold Dps.fds; rw [List.length_map]; omega), if_pos]
 rw [List.all_eq_true]
 intro f hf
 unfold Dps.fds at hf
 obtain ⟨x, hx, rfl⟩ := List.mem_map.1 hf
 exact (l4 h0 (by omega)).2 ⟨kn, kn⟩
end Go.Hx
end
section
namespace Go.Hx
open Go.Proofs
set_option maxRecDepth 100000
theorem b00 : goodFn Tryz.prog 57 := ⟨Tryz.f57, Tryz.func57, by kernel_rfl, by kernel_rfl⟩
theorem b1j (n : Int) (l : List Dp) (hl : l.length ≤ 16777216) : ah Tryz.prog 57 [pI n, pP (dpl l)] (ap [pP (fdl (l.map (Dp.fd n)))]) := by
 refine ag (nt := 37) af Tryz.func57 rfl rfl l9 ?_; refine sx7 ?_; refine qy ?_; refine a6 ?_; refine sx7 ?_; refine qy ?_; refine rc rfl rfl rfl rfl rfl rfl zd (a0s n) (CoL.refl _) rfl rfl ?_; refine qy ?_
 refine a6 ?_; refine sx7 ?_; refine qy ?_; refine a6 ?_; refine a7 ?_; refine sx7 ?_; refine qy ?_; refine a6 ?_; refine ae ?_
 refine dp 6 900 true 2 40 (lf Fd.c []) (by decide) rfl (CoP.sl rfl (.inr rfl) (fun h => h) (fun i j hi _ => absurd hi (Nat.not_lt_zero i))) (.inr rfl) rfl ?_
 refine ai (ι := Nat) ⟨[(1, some _), (5, some _)], []⟩ ⟨⟨c9, c9, trivial⟩, trivial⟩ (fun i => ⟨[(6, some (.v (.one (.ref 900 ((l.take i).map (Dp.fd n)).length)))), (7, some (vI i))], [(900, some (.arr true 2 40 ((l.take i).map (Dp.fd n)).length (lf Fd.c ((l.take i).map (Dp.fd n)))))]⟩) (fun i => i ≤ l.length) (fun i => l.length - i) (0) (Nat.zero_le _) ⟨⟨zy, zy, trivial⟩, ⟨u9, trivial⟩⟩ ?_
 rintro i hi
 have hlen : ((l.take i).map (Dp.fd n)).length ≤ i := by rw [List.length_map, List.length_take]; omega
 refine a7 ?_; refine sx7 ?_; (iterate 4 refine qy ?_); refine a6 ?_; refine a8 _ rfl (fun r0 => ?_) (fun r0 => ?_)
 ·
  have h0 := of_decide_eq_true r0
  try simp only [ty] at h0
  refine aa ?_; refine a7 ?_; refine ae ?_; refine b7 (E := bm) af ar [0, 1, 2, 3, 4, 5, 6, 7, 8, 9, 10, 11, 12, 13, 14, 15, 16, 17, 18, 19, 20] ?_; (iterate 18 refine qy ?_); refine m9 0 ?_
  refine ra 1 true rfl rfl rfl rfl rfl rfl ?_; refine qy ?_; refine a6 ?_; refine ⟨by kernel_rfl, ?_⟩; refine gy ?_; (iterate 3 refine qy ?_); refine a6 ?_; refine ⟨i + 1, ?_, ?_, ?_⟩
  · show i + 1 ≤ _; omega
  · first | omega | (dsimp only; omega)
  · exact ⟨⟨⟨_, rfl, (dc (vm (by omega)))⟩, zy, c9, c9, trivial⟩, ⟨⟨_, rfl, (j3 (vm (by omega)) (CoP.of_eq (congrArg (fun z => PV.raw (.int .u32 z)) (ami _ _))) (CoP.of_eq (congrArg (fun z => PV.raw (.int .u32 z)) (ami _ _))))⟩, trivial⟩⟩
 ·
  have h0 := of_decide_eq_false r0
  try simp only [ty] at h0
  obtain rfl : i = l.length := by omega
  refine ak ?_; refine sx7 ?_; (iterate 2 refine qy ?_); refine a6 ?_; refine br 4 rfl rfl rfl ?_
  exact hx8 rfl rfl rfl (⟨CoC.one (CoP.of_eq (by rw [List.take_length]; rfl)), trivial⟩)
theorem azu : goodFn Tryz.prog 28 := ⟨Tryz.f28, Tryz.func28, by kernel_rfl, by kernel_rfl⟩
theorem cOf (d : Dps) (hl : d.l.length ≤ 16777216) : ah Tryz.prog 28 [d.pc] (ap [pI d.num, pP (fdl d.fds), pB (decide (d.l.length ≤ 6))]) := by
 refine ag (nt := 19) af Tryz.func28 rfl rfl l9 ?_; refine sx7 ?_; refine m9 0 ?_; (iterate 3 refine qy ?_); refine a6 ?_; refine sx7 ?_; (iterate 5 refine qy ?_); refine a6 ?_; refine a7 ?_
 refine b7 (E := bm) af ar [0, 1, 2, 3, 4, 5, 6, 7, 8, 9, 10, 11] ?_; (iterate 4 refine qy ?_); refine rc rfl rfl rfl rfl rfl rfl b00 (b1j d.num d.l hl) (CoL.refl _) rfl rfl ?_; (iterate 7 refine qy ?_)
 refine a6 ?_; refine ⟨by kernel_rfl, ?_⟩
 exact hx8 rfl rfl rfl (⟨cci (show (d.n.toNat : Int) % 7 = d.num by unfold Dps.num; omega), CoC.refl _, ccb (decide_eq_decide.2 (by omega)), trivial⟩)
end Go.Hx
end
section
namespace Go.Hx
def noA (s : AS) (a : Nat) : AS := s &&& ~~~((1 : AS) <<< a)
theorem a9z (s : AS) (a : Nat) {b : Int} (h : b.toNat = a) : ca .andNot .u32 (asI s) (IntKind.wrap .u32 (1 * 2 ^ (min b.toNat 32))) = asI (noA s a) := by
 rw [h]
 exact a10 s a
def vv (n : Int) (l : List Fd) (s : AS) (a : Nat) : AS := if eo n l (noA s a) = true then noA s a else s
def fq (n : Int) (l : List Fd) (s : AS) (k : Nat) : AS := (List.range k).foldl (fun s j => vv n l s (n.toNat - 1 - j)) s
theorem lv (n : Int) (l : List Fd) (s : AS) (k : Nat) : fq n l s (k + 1) = vv n l (fq n l s k) (n.toNat - 1 - k) := by
 unfold fq
 rw [List.range_succ, List.foldl_append]
 rfl
theorem afy {n : Int} {l : List Fd} {s : AS} {k : Nat} (h : eo n l (noA (fq n l s k) (n.toNat - 1 - k)) = true) : fq n l s (k + 1) = noA (fq n l s k) (n.toNat - 1 - k) := by
 rw [lv]; exact if_pos h
theorem afv {n : Int} {l : List Fd} {s : AS} {k : Nat} (h : eo n l (noA (fq n l s k) (n.toNat - 1 - k)) = false) : fq n l s (k + 1) = fq n l s k := by
 rw [lv]; exact if_neg (by rw [h]; decide)
def rkE (n : Int) (l : List Fd) (s : AS) : Int := if av n l = 0 then (if eo n l s = true then 0 else 1) else av n l
def rkS (n : Int) (l : List Fd) (s : AS) : AS := if rkE n l s = 0 then fq n l s n.toNat else 0
theorem b2t {n : Int} {l : List Fd} {s : AS} (h : ¬ av n l = 0) : rkS n l s = 0 ∧ rkE n l s = av n l := by
 have e : rkE n l s = av n l := if_neg h
 exact ⟨if_neg (by rw [e]; exact h), e⟩
theorem b36 {n : Int} {l : List Fd} {s : AS} (h : av n l = 0) (h2 : eo n l s = false) : rkS n l s = 0 ∧ rkE n l s = 1 := by
 have e : rkE n l s = 1 := by unfold rkE; rw [if_pos h, if_neg (by rw [h2]; decide)]
 exact ⟨if_neg (by rw [e]; decide), e⟩
theorem ahq {n : Int} {l : List Fd} {s : AS} (h : av n l = 0) (h2 : eo n l s = true) : rkS n l s = fq n l s n.toNat ∧ rkE n l s = 0 := by
 have e : rkE n l s = 0 := by unfold rkE; rw [if_pos h, if_pos h2]
 exact ⟨if_pos e, e⟩
def qe (n : Int) (l : List Fd) (s : AS) : Bool := eo n l s && (List.range n.toNat).all fun a => !(s.getLsbD a && eo n l (noA s a))
def ju (n : Int) (l : List Fd) (i : Nat) : List AS := ((List.range i).map (BitVec.ofNat 32)).filter (qe n l)
theorem nv {n : Int} {l : List Fd} {i : Nat} (h : qe n l (BitVec.ofNat 32 i) = true) : ju n l (i + 1) = ju n l i ++ [BitVec.ofNat 32 i] := by
 unfold ju
 rw [List.range_succ, List.map_append, List.filter_append]
 simp only [List.map_cons, List.map_nil, List.filter_cons, h, if_true, List.filter_nil]
theorem nz {n : Int} {l : List Fd} {i : Nat} (h : qe n l (BitVec.ofNat 32 i) = false) : ju n l (i + 1) = ju n l i := by
 unfold ju
 rw [List.range_succ, List.map_append, List.filter_append]
 simp only [List.map_cons, List.map_nil, List.filter_cons, h, Bool.false_eq_true, if_false, List.filter_nil, List.append_nil]
theorem a9c (n : Int) (l : List Fd) (i : Nat) : (ju n l i).length ≤ i := by
 unfold ju
 exact Nat.le_trans (List.length_filter_le _ _) (by rw [List.length_map, List.length_range]; exact Nat.le_refl _)
def d5 (n : Int) (l : List Fd) : List AS := if av n l = 0 then ord (ju n l (2 ^ n.toNat)) else []
theorem af8 {n : Int} {l : List Fd} (h : av n l = 0) : d5 n l = ord (ju n l (2 ^ n.toNat)) := if_pos h
theorem ax9 {n : Int} {l : List Fd} (h : ¬ av n l = 0) : d5 n l = [] := if_neg h
theorem aye {n : Int} (h0 : 0 ≤ n) (h1 : n ≤ 16) : asI (aq n) + 1 = (2 ^ n.toNat : Nat) ∧ 2 ^ n.toNat ≤ 65536 := by
 have h2 : 2 ^ n.toNat ≤ 2 ^ 16 := Nat.pow_le_pow_right (by omega) (by omega)
 have h3 : 0 < 2 ^ n.toNat := Nat.two_pow_pos _
 unfold aq asI
 rw [a2q (Nat.min_le_right _ _), Nat.min_eq_left (by omega)]
 omega
end Go.Hx
end
section
namespace Go.Hx
open Go.Proofs
set_option maxRecDepth 100000
theorem azn : goodFn Tryz.prog 89 := ⟨Tryz.f89, Tryz.func89, by kernel_rfl, by kernel_rfl⟩
theorem at9 (n : Int) (l : List Fd) (s : AS) : ah Tryz.prog 89 [pI n, pP (fdl l), pA s] (ap [pA (rkS n l s), pI (rkE n l s)]) := by
 refine ag (nt := 38) af Tryz.func89 rfl rfl l9 ?_; refine sx7 ?_; (iterate 2 refine qy ?_); refine a6 ?_; refine a7 ?_; refine sx7 ?_; (iterate 2 refine qy ?_)
 refine rc rfl rfl rfl rfl rfl rfl tj (sx n l) (CoL.refl _) rfl rfl ?_; refine qy ?_; refine a6 ?_; refine sx7 ?_; (iterate 2 refine qy ?_); refine a6 ?_; refine a8 _ rfl (fun r0 => ?_) (fun r0 => ?_)
 ·
  have h0 := r0
  have h0 := of_decide_eq_false (ax h0)
  try simp only [ty] at h0
  refine sx7 ?_; (iterate 3 refine qy ?_); refine a6 ?_; refine am ?_; refine ⟨.inr rfl, ?_⟩
  have he := b2t (s := s) h0
  exact f9 rfl rfl (⟨cci (congrArg asI he.1.symm), cci he.2.symm, trivial⟩)
 ·
  have h0 := r0
  have h0 := of_decide_eq_true (aw h0)
  try simp only [ty] at h0
  refine aa ?_; refine a7 ?_; refine sx7 ?_; (iterate 3 refine qy ?_); refine rc rfl rfl rfl rfl rfl rfl aay (aio n l s) (CoL.refl _) rfl rfl ?_; refine qy ?_; refine a6 ?_
  refine a8 _ rfl (fun r1 => ?_) (fun r1 => ?_)
  ·
   have h1 := r1
   have h1 := ax h1
   refine sx7 ?_; (iterate 2 refine qy ?_); refine a6 ?_; refine am ?_; refine ⟨.inr rfl, ?_⟩
   have he := b36 h0 (by assumption)
   exact f9 rfl rfl (⟨cci (congrArg asI he.1.symm), cci he.2.symm, trivial⟩)
  ·
   have h1 := r1
   have h1 := aw h1
   refine aa ?_; (iterate 2 refine a7 ?_)
   have hv := cr h0
   refine gy ?_; (iterate 3 refine qy ?_); refine a6 ?_; refine ae ?_
   refine ai (ι := Nat) ⟨[(0, some _), (1, some _)], []⟩ ⟨⟨c9, c9, trivial⟩, trivial⟩ (fun k => ⟨[(2, some (vA (fq n l s k))), (9, some (vI (n - 1 - (k : Int))))], []⟩) (fun k => k ≤ n.toNat) (fun k => n.toNat - k) (0) (Nat.zero_le _) ⟨⟨zy, ⟨_, rfl, (coi (by omega))⟩, trivial⟩, trivial⟩ ?_
   rintro k hk
   refine a7 ?_; refine sx7 ?_; (iterate 2 refine qy ?_); refine a6 ?_; refine a8 _ rfl (fun r2 => ?_) (fun r2 => ?_)
   ·
    have h2 := of_decide_eq_true r2
    try simp only [ty] at h2
    refine aa ?_; refine a7 ?_; refine ae ?_; refine sx7 ?_; (iterate 5 refine qy ?_); refine a6 ?_; refine sx7 ?_; (iterate 3 refine qy ?_)
    refine rc rfl rfl rfl rfl rfl rfl aay (aio n l (noA (fq n l s k) (n.toNat - 1 - k))) (⟨CoC.refl _, CoC.refl _, cci (a9z _ _ (by omega)), trivial⟩) rfl rfl ?_; refine a6 ?_
    refine a8 _ rfl (fun r3 => ?_) (fun r3 => ?_)
    ·
     have h3 := r3
     refine gy ?_; (iterate 2 refine qy ?_); refine a6 ?_; refine gy ?_; (iterate 3 refine qy ?_); refine a6 ?_
     first | (refine ⟨k + 1, ?_, ?_, ?_⟩
              · show k + 1 ≤ _; omega
              · first | omega | (dsimp only; omega)
              · exact ⟨⟨⟨_, rfl, (c8 ((a9z _ (n.toNat - 1 - k) (by omega)).trans (congrArg asI (afy (by assumption)).symm)))⟩, ⟨_, rfl, (coi (by omega))⟩, c9, c9, trivial⟩, trivial⟩)
           | (refine ⟨k + 1, ?_, ?_, ?_⟩
              · show k + 1 ≤ _; omega
              · first | omega | (dsimp only; omega)
              · exact ⟨⟨⟨_, rfl, (c8 (by rw [afv (by assumption)]))⟩, ⟨_, rfl, (coi (by omega))⟩, c9, c9, trivial⟩, trivial⟩)
    ·
     have h3 := r3
     refine aa ?_; refine gy ?_; (iterate 3 refine qy ?_); refine a6 ?_
     first | (refine ⟨k + 1, ?_, ?_, ?_⟩
              · show k + 1 ≤ _; omega
              · first | omega | (dsimp only; omega)
              · exact ⟨⟨⟨_, rfl, (c8 ((a9z _ (n.toNat - 1 - k) (by omega)).trans (congrArg asI (afy (by assumption)).symm)))⟩, ⟨_, rfl, (coi (by omega))⟩, c9, c9, trivial⟩, trivial⟩)
           | (refine ⟨k + 1, ?_, ?_, ?_⟩
              · show k + 1 ≤ _; omega
              · first | omega | (dsimp only; omega)
              · exact ⟨⟨⟨_, rfl, (c8 (by rw [afv (by assumption)]))⟩, ⟨_, rfl, (coi (by omega))⟩, c9, c9, trivial⟩, trivial⟩)
   ·
    have h2 := of_decide_eq_false r2
    try simp only [ty] at h2
    refine ak ?_; refine sx7 ?_; (iterate 3 refine qy ?_); refine a6 ?_; refine am ?_; refine ⟨.inr rfl, ?_⟩
    have he := ahq h0 (by assumption)
    obtain rfl : k = n.toNat := by omega
    exact f9 rfl rfl (⟨cci (congrArg asI he.1.symm), cci he.2.symm, trivial⟩)
end Go.Hx
end
section
namespace Go.Hx
theorem arn {n : Int} (h0 : 0 ≤ n) (h1 : n ≤ 16) : IntKind.wrap .i64 (1 * 2 ^ min n.toNat IntKind.i64.bits) = ((2 ^ n.toNat : Nat) : Int) := by
 have h2 : 2 ^ n.toNat ≤ 2 ^ 16 := Nat.pow_le_pow_right (by omega) (by omega)
 have e : (1 : Int) * 2 ^ min n.toNat IntKind.i64.bits = ((2 ^ n.toNat : Nat) : Int) := by
  rw [show min n.toNat IntKind.i64.bits = n.toNat from Nat.min_eq_left (by show n.toNat ≤ 64; omega), Int.natCast_pow, Int.one_mul]
  rfl
 rw [e]
 have h3 : ((2 ^ n.toNat : Nat) : Int) ≤ 65536 := by omega
 have h4 : 0 ≤ ((2 ^ n.toNat : Nat) : Int) := Int.natCast_nonneg _
 generalize ((2 ^ n.toNat : Nat) : Int) = z at *
 exact lp (by simp only [inR, oq, qq]; omega)
theorem axx {m : Nat} (h : m ≤ 65536) : 0 ≤ (m : Int) ∧ (m : Int) ≤ m ∧ (m : Int) ≤ 9223372036854775807 ∧ ((1 : Nat) : Int) * m ≤ 281474976710656 := by omega
def bC : Bool → Nat → PV := fun b _ => .raw (.bool b)
def pn (n : Int) (l : List Fd) (k : Nat) : Bool := decide (clo l (BitVec.ofNat 32 k) = aq n)
def tq (n : Int) (l : List Fd) (i : Nat) : List Bool := (List.range (2 ^ n.toNat)).map fun k => decide (k < i) && pn n l k
theorem nk (n : Int) (l : List Fd) (i : Nat) : (tq n l i).length = 2 ^ n.toNat := by unfold tq; rw [List.length_map, List.length_range]
theorem xw {n : Int} {l : List Fd} {i k : Nat} (h : k < 2 ^ n.toNat) : (tq n l i)[k]? = some (decide (k < i) && pn n l k) := by
 unfold tq
 rw [List.getElem?_map, List.getElem?_range h]
 rfl
theorem ap9 {n : Int} {l : List Fd} {i : Nat} (h : i < 2 ^ n.toNat) : (tq n l i).set i (pn n l i) = tq n l (i + 1) := by
 apply List.ext_getElem?
 intro k
 rw [List.getElem?_set, nk]
 by_cases hk : k < 2 ^ n.toNat
 · rw [xw hk, xw hk]
   by_cases e : i = k
   · subst e
     rw [if_pos rfl, if_pos h, decide_eq_true (Nat.lt_succ_self _)]
     rfl
   · rw [if_neg e]
     congr 2
     exact decide_eq_decide.2 (by omega)
 · have e : i ≠ k := by omega
   rw [if_neg e, List.getElem?_eq_none (by rw [nk]; omega), List.getElem?_eq_none (by rw [nk]; omega)]
theorem alj {n : Int} {l : List Fd} {m : Nat} {f : Nat → Nat → PV} {e : TypeId} (hm : m = 2 ^ n.toNat) (hf : ∀ i, f i 0 = .raw (.bool false)) : CoO (.arr true 1 e m f) (.arr true 1 e (2 ^ n.toNat) (lf bC (tq n l 0))) := by
 subst hm
 refine ⟨fun h => h, rfl, rfl, rfl, fun i j hi hj => CoP.of_eq ?_⟩
 have hj : j < 1 := hj
 have hi : i < 2 ^ n.toNat := hi
 obtain rfl : j = 0 := by omega
 rw [hf]
 unfold lf
 rw [List.getD_eq_getElem?_getD, xw hi]
 rfl
def ta (n : Int) (l : List Fd) : List Bool := tq n l (2 ^ n.toNat)
theorem akl {n : Int} {l : List Fd} {i k : Nat} {e : TypeId} {x : PV} (h : i < 2 ^ n.toNat) (hk : k = i) (hx : x = bC (pn n l i) 0) : CoO (.arr true 1 e (2 ^ n.toNat) (fb (lf bC (tq n l i)) k 0 [x])) (.arr true 1 e (2 ^ n.toNat) (lf bC (tq n l (i + 1)))) := by
 rw [← ap9 h]
 exact a89 (fun h => h) (nk _ _ _).symm hk (by rw [nk]; exact h) hx
theorem a3x {n : Int} {l : List Fd} {k : Nat} (h : k < 2 ^ n.toNat) : (ta n l).getD k default = pn n l k := by
 unfold ta
 rw [List.getD_eq_getElem?_getD, xw h, decide_eq_true h]
 rfl
theorem aoe (n : Int) (l : List Fd) : (ta n l).length = 2 ^ n.toNat := nk _ _ _
end Go.Hx
end
section
namespace Go.Hx
open Go.Proofs
set_option maxRecDepth 100000
theorem asz : goodFn Tryz.prog 168 := ⟨Tryz.f168, Tryz.func168, by kernel_rfl, by kernel_rfl⟩
theorem aty (n : Int) (l : List Fd) (h0n : 0 ≤ n) (h1n : n ≤ 16) : ah Tryz.prog 168 [pI n, pP (fdl l)] (ap [pP (psl 1 bC (ta n l))]) := by
 refine ag (nt := 27) af Tryz.func168 rfl rfl l9 ?_; refine sx7 ?_; refine qy ?_; refine a6 ?_; refine a7 ?_
 have hs := arn h0n h1n
 have hpw : 2 ^ n.toNat ≤ 2 ^ 16 := Nat.pow_le_pow_right (by omega) (by omega)
 refine gy ?_; (iterate 2 refine qy ?_); refine rm 0 rfl rfl rfl rfl rfl rfl ?_ (hp := (by rw [hs]; exact axx hpw)); refine qy ?_; refine a6 ?_; refine a7 ?_; refine sx7 ?_; (iterate 3 refine qy ?_); refine a6 ?_
 refine ae ?_
 refine ai (ι := Nat) ⟨[(0, some _), (1, some _)], []⟩ ⟨⟨c9, c9, trivial⟩, trivial⟩ (fun i => ⟨[(5, some (.v (.one (.ref 0 (2 ^ n.toNat))))), (11, some (vI (2 ^ n.toNat : Nat))), (12, some (vI i))], [(0, some (.arr true 1 4 (2 ^ n.toNat) (lf bC (tq n l i))))]⟩) (fun i => i ≤ 2 ^ n.toNat) (fun i => 2 ^ n.toNat - i) (0) (Nat.zero_le _) ⟨⟨⟨_, rfl, (u6 (by rw [hs]; rfl))⟩, ⟨_, rfl, (coi (by rw [hs]; rfl))⟩, zy, trivial⟩, ⟨⟨_, rfl, (alj (by rw [hs]; rfl) (fun _ => rfl))⟩, trivial⟩⟩ ?_
 rintro i hi
 refine sx7 ?_; refine qy ?_; refine a6 ?_; refine a7 ?_; refine a8 _ rfl (fun r0 => ?_) (fun r0 => ?_)
 ·
  have h0 := of_decide_eq_true r0
  try simp only [ty] at h0
  refine aa ?_; refine a7 ?_; refine ae ?_; refine sx7 ?_; (iterate 2 refine qy ?_); refine a6 ?_; refine gy ?_; (iterate 5 refine qy ?_)
  refine rc rfl rfl rfl rfl rfl rfl mb (ot l (BitVec.ofNat 32 i)) (⟨CoC.refl _, cci (f5 (by omega)), trivial⟩) rfl rfl ?_; refine qy ?_
  refine rc rfl rfl rfl rfl rfl rfl aep (an1 n h0n h1n) (CoL.refl _) rfl rfl ?_; (iterate 2 refine qy ?_); refine s9 ?_; refine a6 ?_; refine gy ?_; (iterate 2 refine qy ?_); refine a6 ?_; refine ⟨i + 1, ?_, ?_, ?_⟩
  · show i + 1 ≤ _; omega
  · first | omega | (dsimp only; omega)
  · exact ⟨⟨zy, zy, zy, c9, c9, trivial⟩, ⟨⟨_, rfl, (akl (by omega) rfl (by rw [a5j]; rfl))⟩, trivial⟩⟩
 ·
  have h0 := of_decide_eq_false r0
  try simp only [ty] at h0
  obtain rfl : i = 2 ^ n.toNat := by omega
  refine ak ?_; refine sx7 ?_; (iterate 2 refine qy ?_); refine a6 ?_; refine br 4 rfl rfl rfl ?_
  exact hx8 rfl rfl rfl (⟨CoC.one (CoP.sl (nk _ _ _) (.inl rfl) (fun h => by cases h) (fun i j hi hj => CoP.refl _)), trivial⟩)
end Go.Hx
end
