/- A part of the proof: lemmas for the theorem of this claim, merged by a program of ours out of Hx21, Sp18, W40, Sp19. -/
import Derived.ChangeArms
import Derived.OpenShut
import Derived.ProofKit
import Derived.WalkKit
import Derived.WideKeyArgs
import Derived.Test.YtdcdbghdgjlhhaaGreatM12
import Derived.Test.YtdcdbghdgjlhhaaGreatM13
import Derived.Test.YtdcdbghdgjlhhaaGreatM33
set_option linter.all false
section
namespace Go.Hx
open Go.RowKit Go.ChangeShapes Go.WideShapes Go.ChangeAt
def Rd (P : Program) (t : TypeId) (n : Nat) {α : Type} (c : α → Nat → PV) : Prop :=
  ∀ (H : Type) (enc : TypeId × Value → H) (w : World) (sp : Nat → Bool) (held : Bool) (fuel : Nat) (cs : List Value) (x : DataW H × List MemPlace), DataW.trod enc P w 0 sp held fuel t cs = some x →
    cs.length = n ∧ ∃ a : α, ∀ j, j < n → ∃ v, cs[j]? = some v ∧ RepP (nowImm w) (c a j) v
section
variable {P : Program} {t e : TypeId}
def intC (k : IntKind) (z : Int) : Nat → PV := fun _ => .raw (.int k z)
def boolC (b : Bool) : Nat → PV := fun _ => .raw (.bool b)
def byteC (s : ByteArray) : Nat → PV := fun _ => .raw (.string s)
theorem rd_int {k : IntKind} (ht : P.underlying t = some (.int k)) : Rd P t 1 (intC k) := by
  intro H enc w sp held fuel cs x h
  obtain ⟨n, rfl, _, _⟩ := DataW.trod_int ht h
  refine ⟨rfl, n, fun j hj => ?_⟩
  obtain rfl : j = 0 := by omega
  exact ⟨_, rfl, rfl, rfl⟩
theorem rd_bool (ht : P.underlying t = some .bool) : Rd P t 1 boolC := by
  intro H enc w sp held fuel cs x h
  obtain ⟨n, rfl, _⟩ := DataW.trod_bool ht h
  refine ⟨rfl, n, fun j hj => ?_⟩
  obtain rfl : j = 0 := by omega
  exact ⟨_, rfl, rfl, rfl⟩
theorem rd_string (ht : P.underlying t = some .string) : Rd P t 1 byteC := by
  intro H enc w sp held fuel cs x h
  obtain ⟨n, rfl, _⟩ := DataW.trod_string ht h
  refine ⟨rfl, n, fun j hj => ?_⟩
  obtain rfl : j = 0 := by omega
  exact ⟨_, rfl, rfl, rfl⟩
def u8P (u : UInt8) : Nat → PV := fun _ => .raw (.int .u8 (u.toNat : Int))
theorem rd_u8 (ht : P.underlying t = some (.int .u8)) : Rd P t 1 u8P := by
  intro H enc w sp held fuel cs x h
  obtain ⟨n, rfl, _, hw⟩ := DataW.trod_int ht h
  have hx : 0 ≤ n ∧ n ≤ 255 := by simpa [Lit.wf, IntKind.min, IntKind.max, IntKind.signed, IntKind.bits] using hw
  refine ⟨rfl, UInt8.ofNat n.toNat, fun j hj => ?_⟩
  obtain rfl : j = 0 := by omega
  refine ⟨_, rfl, ?_, rfl⟩
  have : (UInt8.ofNat n.toNat).toNat = n.toNat := by
    rw [UInt8.toNat_ofNat']
    omega
  rw [this]
  congr 1
  omega
theorem Rd.co {n : Nat} {α β : Type} {c : α → Nat → PV} {c' : β → Nat → PV} (h : Rd P t n c) (f : α → β) (hc : ∀ a j, j < n → CoP (c a j) (c' (f a) j)) : Rd P t n c' := by
  intro H enc w sp held fuel cs x hx
  obtain ⟨h1, a, h2⟩ := h _ enc w sp held fuel cs x hx
  refine ⟨h1, f a, fun j hj => ?_⟩
  obtain ⟨v, h3, h4⟩ := h2 j hj
  exact ⟨v, h3, hc a j hj _ _ h4⟩
def pslC {α : Type} [Inhabited α] (s : Nat) (c : α → Nat → PV) (l : List α) : Nat → PV := fun _ => psl s c l
theorem rd_slice {s : Nat} {α : Type} [Inhabited α] {c : α → Nat → PV} (ht : P.underlying t = some (.slice e)) (hc : P.cellsOf e = s) (hs : 0 < s) (h : Rd P e s c) : Rd P t 1 (pslC s c) := by
  classical
  intro H enc w sp held fuel cs x hx
  rcases DataW.trod_slice ht hx with ⟨rfl, _⟩ | ⟨a, len, cap, elems, rest, n, rfl, rfl, _, hb, hl, hm, hlen, hel, _, _⟩
  · refine ⟨rfl, [], fun j hj => ?_⟩
    obtain rfl : j = 0 := by omega
    exact ⟨_, rfl, none, 0, rfl, Nat.le_refl _, Nat.zero_le _, (fun hh => by cases hh), fun hh => absurd hh (Nat.lt_irrefl 0)⟩
  · have each : ∀ i, i < len → ∃ q : α, ∀ j, j < s → ∃ v, w.cell? (a.add (i * s + j)) = some v ∧ RepP (nowImm w) (c q j) v := by
      intro i hi
      have h1 := hel i hi
      rw [hc] at h1
      rw [List.getElem?_eq_getElem (by omega)] at h1
      obtain ⟨cs', h2, h3⟩ := Option.bind_eq_some_iff.1 h1
      obtain ⟨_, h4, h5⟩ := World.cells?_some h2
      obtain ⟨_, q, h6⟩ := h _ enc w sp held n cs' _ h3
      refine ⟨q, fun j hj => ?_⟩
      obtain ⟨v, h7, h8⟩ := h6 j hj
      refine ⟨v, ?_, h8⟩
      have := h5 j hj
      rw [h7] at this
      rw [← this]
      congr 1
      unfold Addr.add
      by_cases hj0 : j = 0
      · subst hj0
        simp
      · by_cases hi0 : i * s = 0
        · simp [hi0, hj0]
        · have : ¬ (i * s + j = 0) := by omega
          simp only [hj0, hi0, this, if_false]
          congr 1
          omega
    refine ⟨rfl, (List.range len).map fun i => if hi : i < len then Classical.choose (each i hi) else default, fun j hj => ?_⟩
    obtain rfl : j = 0 := by omega
    refine ⟨_, rfl, some a, cap, by simp, by simpa using hl, hm, (fun hh => by cases hh), fun hn => ?_⟩
    have hn : 0 < len := by simpa using hn
    have hspot : a.spot = none := by
      obtain ⟨q, hq⟩ := each 0 hn
      obtain ⟨v, hv, _⟩ := hq 0 hs
      have : a.add (0 * s + 0) = a := by simp [Addr.add]
      rw [this] at hv
      unfold World.cell? at hv
      split at hv
      · split at hv
        · cases hv
        · rename_i hsp
          simpa using hsp
      · cases hv
    refine ⟨a.block, a.off, ?_, fun i j hi hj => ?_⟩
    · obtain ⟨b, o, spo⟩ := a
      simp only at hspot
      subst hspot
      rfl
    · have hi : i < len := by simpa using hi
      have hch := Classical.choose_spec (each i hi)
      obtain ⟨v, hv, hr⟩ := hch j hj
      refine ⟨v, ?_, ?_⟩
      · unfold World.cell? at hv
        have hblk : (a.add (i * s + j)).block = a.block := by unfold Addr.add; split <;> rfl
        have hoff : (a.add (i * s + j)).off = a.off + (i * s + j) := by
          unfold Addr.add
          split
          · rename_i h0; rw [h0]; rfl
          · rfl
        rw [hblk, hoff] at hv
        unfold cellIn nowImm
        split at hv
        · rename_i hb'
          rw [hb']
          split at hv
          · cases hv
          · exact hv
        · cases hv
      · have : lf c ((List.range len).map fun i => if hi : i < len then Classical.choose (each i hi) else default) i j = c (Classical.choose (each i hi)) j := by
          unfold lf
          simp [List.getD, hi]
        rw [this]
        exact hr
theorem rd_fields {H : Type} {enc : TypeId × Value → H} {w : World} {sp : Nat → Bool} {held : Bool} {fuel : Nat} {cs : List Value} {x : DataW H × List MemPlace} {fs : Array Field} (ht : P.underlying t = some (.struct fs)) (h : DataW.trod enc P w 0 sp held fuel t cs = some x) :
    cs.length = P.cellsOf t ∧ ∃ n, ∀ (i : Nat) (f : Field), fs[i]? = some f → ∃ y, DataW.trod enc P w 0 sp held n f.type ((cs.drop f.offset).take (P.cellsOf f.type)) = some y := by
  obtain ⟨xs, n, _, _, h1, h2, h3⟩ := DataW.trod_struct ht h
  refine ⟨h1, n, fun i f hf => ?_⟩
  have := h3 i f hf
  rw [this]
  have hi : i < xs.length := by rw [h2]; exact (Array.getElem?_eq_some_iff.1 hf).1
  exact ⟨_, List.getElem?_eq_getElem hi⟩
theorem rd_field {H : Type} {enc : TypeId × Value → H} {w : World} {sp : Nat → Bool} {held : Bool} {n off s : Nat} {ft : TypeId} {cs : List Value} {y : DataW H × List MemPlace} {α : Type} {c : α → Nat → PV} (h : Rd P ft s c) (hy : DataW.trod enc P w 0 sp held n ft ((cs.drop off).take (P.cellsOf ft)) = some y) :
    ∃ a : α, ∀ j, j < s → ∃ v, cs[off + j]? = some v ∧ RepP (nowImm w) (c a j) v := by
  obtain ⟨h1, a, h2⟩ := h _ enc w sp held n _ y hy
  refine ⟨a, fun j hj => ?_⟩
  obtain ⟨v, h3, h4⟩ := h2 j hj
  refine ⟨v, ?_, h4⟩
  rw [List.getElem?_take] at h3
  split at h3
  · rwa [List.getElem?_drop] at h3
  · cases h3
end
theorem kept_of_below {W W' : World} (hb : Below W.heap.size W W') (may : MemPlace → Prop) : W.keptBut W' may := by
  refine ⟨hb.os, hb.output, fun i hi => ?_⟩
  rw [hb.block i hi]
  cases W.heap[i]? with
  | none => exact rfl
  | some o => cases o <;> first | exact ⟨rfl, rfl, rfl, fun _ _ => rfl⟩ | exact .inr ⟨rfl, rfl⟩ | exact rfl
theorem same_of_below {W W' : World} (hb : Below W.heap.size W W') (p : MemPlace) (hp : p.block < W.heap.size) : W.sameAt W' p := by
  cases p with
  | cell b off => show W'.cell? _ = W.cell? _; unfold World.cell?; rw [hb.block b hp]
  | map b => exact hb.block b hp
section
variable {H : Type} {enc : TypeId × Value → H} {P : Program}
theorem trodAll_stays (hl : laidOutB P = true) {W W' : World} {sp' : Nat → Bool} : ∀ {ts : List TypeId} {vs : List Value} {ds : List (DataW H)} {ps : List MemPlace}, (∀ t ∈ ts, P.readableRec t = true ∧ t < P.types.size) → DataW.TrodAll enc P W 0 (fun _ => true) true ts vs ds ps →
    (∀ p ∈ ps, W.sameAt W' p) → (∀ p ∈ ps, sp' p.block = true) → DataW.TrodAll enc P W' 0 sp' true ts vs ds ps
  | [], [], [], ps, _, h, _, _ => h
  | t :: ts, v :: vs, d :: ds, ps, ht, ⟨p, q, h1, h2, e⟩, hs, hsp => by
    subst e
    refine ⟨p, q, WideElems.Trod_stays hl (ht t (by simp)).1 (ht t (by simp)).2 h1 (fun z hz => hs z (by simp [hz])) (fun z hz => hsp z (by simp [hz])), ?_, rfl⟩
    exact trodAll_stays hl (fun t ht' => ht t (by simp [ht'])) h2 (fun z hz => hs z (by simp [hz])) (fun z hz => hsp z (by simp [hz]))
  | [], _ :: _, _, _, _, h, _, _ => h.elim
  | [], [], _ :: _, _, _, h, _, _ => h.elim
  | _ :: _, [], _, _, _, h, _, _ => h.elim
  | _ :: _, _ :: _, [], _, _, h, _, _ => h.elim
theorem law_post {f : Func} {s : ChangeSpec} {W W' : World} {args : Array Value} {ds : List (DataW H)} {before : List MemPlace} {tb : TypeId} (hl : laidOutB P = true) (hpar : ∀ t ∈ f.params.toList, P.readableRec t = true ∧ t < P.types.size)
    (hres : f.resultTypes = #[tb]) (htb : P.underlying tb = some .bool) (hv : s.vars = []) (hfn : s.fn H ds = { results := [.lit (.bool true)], args := ds })
    (hW : DataW.Whole enc P f.params.toList s.vars false W args.toList ds [] before) (hb : Below W.heap.size W W') : s.post enc P f false true false false W args (.bool true) W' := by
  have hW' := hW
  have hlt : ∀ p ∈ before, p.block < W.heap.size := fun p hp => hW.lt p hp
  obtain ⟨p, q, hA, hV, rfl, hfz, hnd⟩ := hW
  rw [hv] at hV
  obtain ⟨_, rfl⟩ := trodVars_none hV
  have hfn' : s.fn H (ds ++ []) = { results := [.lit (.bool true)], args := ds } := by rw [List.append_nil]; exact hfn
  have hargs : ∀ sp : Nat → Bool, (∀ z ∈ p ++ [], sp z.block = true) → DataW.TrodAll enc P W' 0 sp true f.params.toList args.toList (s.fn H (ds ++ [])).args p := fun sp hsp => by
    rw [hfn']
    exact trodAll_stays hl hpar hA (fun z hz => same_of_below hb z (hlt z (by simpa using hz))) (fun z hz => hsp z (by simpa using hz))
  have hrs : ∀ (b : Nat) (sp : Nat → Bool) (hd : Bool), DataW.TrodAll enc P W' b sp hd f.resultTypes.toList ((Value.bool true).resultList f.resultTypes.size) (s.fn H (ds ++ [])).results [] := fun b sp hd => by
    rw [hfn', hres]
    exact trodAll_cons_mk (shut_bool htb _) trodAll_mk0
  have hok : ∀ (j : Nat) (t : TypeId) (r : Value), f.resultTypes[j]? = some t → ((Value.bool true).resultList f.resultTypes.size)[j]? = some r → Value.okWide P W' .any 0 t r := ok_one hres rfl (okWide_bool_mk htb _)
  have hvars : ∀ sp : Nat → Bool, (∀ z ∈ p ++ [], sp z.block = true) → DataW.TrodVars enc P W' sp s.vars (s.fn H (ds ++ [])).vars [] := fun sp _ => by
    rw [hfn', hv]; exact rfl
  have hold : ∀ z ∈ p ++ [], (fun b => decide (b < W.heap.size)) z.block = true := fun z hz => by simpa using hlt z hz
  refine ⟨ds, [], p ++ [], [], p, [], hW', hrs _ _ _, hargs _ hold, hvars _ hold, World.keptBut_mono (fun z hz => ⟨hz, ?_⟩) (kept_of_below hb (· ∈ p ++ [])), fun _ => ?_⟩
  · exact Or.inr (by simpa using hz)
  · refine ⟨hok, _, _, ([] ++ p) ++ [], ⟨[] ++ p, [], trodAll_append (hargs _ (fun _ _ => rfl)) (hrs _ _ _), hvars _ (fun _ _ => rfl), rfl, ?_, ?_⟩, ?_⟩
    · intro b off hp
      have hp' : MemPlace.cell b off ∈ p ++ [] := by simpa using hp
      have := hfz b off hp'
      unfold World.frozen? at this ⊢
      rw [hb.block b (hlt _ hp')]
      exact this
    · intro ha; cases ha
    · intro z hz _
      simpa using hz
end
theorem okWide_slice {P : Program} {W : World} {r : Reach} {b : Nat} {t e : TypeId} {v : Value} (ht : P.underlying t = some (.slice e)) (h : Value.okWide P W r b t v) : v.cells.toList = [v] := by
  unfold Value.okWide at h
  rw [ht] at h
  unfold Cell.okWide at h
  rw [ht] at h
  cases v <;> first | rfl | (simp [Cell.ok, ht] at h)
theorem okWide_int {P : Program} {W : World} {r : Reach} {b : Nat} {t : TypeId} {k : IntKind} {v : Value} (ht : P.underlying t = some (.int k)) (h : Value.okWide P W r b t v) : v.cells.toList = [v] := by
  unfold Value.okWide at h
  rw [ht] at h
  unfold Cell.okWide at h
  rw [ht] at h
  cases v <;> first | rfl | (simp [Cell.ok, ht] at h)
theorem okWide_bool {P : Program} {W : World} {r : Reach} {b : Nat} {t : TypeId} {v : Value} (ht : P.underlying t = some .bool) (h : Value.okWide P W r b t v) : v.cells.toList = [v] := by
  unfold Value.okWide at h
  rw [ht] at h
  unfold Cell.okWide at h
  rw [ht] at h
  cases v <;> first | rfl | (simp [Cell.ok, ht] at h)
theorem rd_arg {H : Type} {enc : TypeId × Value → H} {P : Program} {W : World} {t : TypeId} {v : Value} {d : DataW H} {ps : List MemPlace} {α : Type} {c : α → Nat → PV} (h : Rd P t 1 c) (hc : v.cells.toList = [v]) (hd : DataW.Trod enc P W 0 (fun _ => true) true t v d ps) : ∃ a : α, RepP (nowImm W) (c a 0) v := by
  obtain ⟨fuel, hf⟩ := hd
  obtain ⟨_, a, ha⟩ := h _ enc W _ _ fuel _ _ hf
  obtain ⟨u, hu, hr⟩ := ha 0 (by omega)
  rw [hc] at hu
  simp only [List.getElem?_cons_zero, Option.some.injEq] at hu
  subst hu
  exact ⟨a, hr⟩
theorem law_calls {P : Program} {f : FuncId} {args : List PC} {us : List Value} {W : World} {R : Ending → World → Prop} (h : HPure P f args (prOf [.one (.raw (.bool true))])) (hr : RepPCL (nowImm W) args us) (hR : ∀ W', Below W.heap.size W W' → R (.returned (.bool true)) W') : Calls P f us.toArray W R := by
  refine (h W (nowImm W) us (fun _ _ hh => hh) hr).mono ?_
  rintro e w' ⟨v, imm', rfl, hv, _, _, hb⟩
  obtain ⟨rfl, _⟩ := hv
  exact hR w' hb
end Go.Hx
end
section
namespace Go.Hx
open Go.Proofs
theorem one0 {j : Nat} (h : j < 1) : j = 0 := by omega
theorem rd5 : Rd Tryz.prog 5 1 u8C := (rd_u8 Tryz.underlying5).co id fun a j hj => by obtain rfl := one0 hj; exact CoP.refl _
theorem rd32 : Rd Tryz.prog 32 1 u8sC := (rd_slice Tryz.underlying32 (by kernel_rfl) (by omega) rd5).co id fun a j hj => by obtain rfl := one0 hj; exact CoP.refl _
theorem rd29 : Rd Tryz.prog 29 1 (pslC 1 u8sC) := rd_slice Tryz.underlying29 (by kernel_rfl) (by omega) rd32
theorem rd31 : Rd Tryz.prog 31 3 Rcp.c := by
  intro H enc w sp held fuel cs x h
  obtain ⟨hl, n, hf⟩ := rd_fields Tryz.underlying31 h
  obtain ⟨y0, e0⟩ := hf 0 _ rfl
  obtain ⟨y1, e1⟩ := hf 1 _ rfl
  obtain ⟨y2, e2⟩ := hf 2 _ rfl
  obtain ⟨a0, h0⟩ := rd_field rd5 e0
  obtain ⟨a1, h1⟩ := rd_field rd5 e1
  obtain ⟨a2, h2⟩ := rd_field rd29 e2
  refine ⟨hl.trans (by kernel_rfl), (⟨a0, a1, a2⟩ : Rcp), fun j hj => ?_⟩
  match j, hj with
  | 0, _ => exact h0 0 (by omega)
  | 1, _ => exact h1 0 (by omega)
  | 2, _ => exact h2 0 (by omega)
theorem rd34 : Rd Tryz.prog 34 9 Opn.c := by
  intro H enc w sp held fuel cs x h
  obtain ⟨hl, n, hf⟩ := rd_fields Tryz.underlying34 h
  obtain ⟨y0, e0⟩ := hf 0 _ rfl
  obtain ⟨y1, e1⟩ := hf 1 _ rfl
  obtain ⟨y2, e2⟩ := hf 2 _ rfl
  obtain ⟨y3, e3⟩ := hf 3 _ rfl
  obtain ⟨y4, e4⟩ := hf 4 _ rfl
  obtain ⟨y5, e5⟩ := hf 5 _ rfl
  obtain ⟨y6, e6⟩ := hf 6 _ rfl
  obtain ⟨a0, h0⟩ := rd_field rd5 e0
  obtain ⟨a1, h1⟩ := rd_field rd5 e1
  obtain ⟨a2, h2⟩ := rd_field rd31 e2
  obtain ⟨a3, h3⟩ := rd_field (rd_int Tryz.underlying2) e3
  obtain ⟨a4, h4⟩ := rd_field rd32 e4
  obtain ⟨a5, h5⟩ := rd_field (rd_int Tryz.underlying3) e5
  obtain ⟨a6, h6⟩ := rd_field rd5 e6
  refine ⟨hl.trans (by kernel_rfl), (⟨a0, a1, a2, a3, a4, a5, a6⟩ : Opn), fun j hj => ?_⟩
  match j, hj with
  | 0, _ => exact h0 0 (by omega)
  | 1, _ => exact h1 0 (by omega)
  | 2, _ => exact h2 0 (by omega)
  | 3, _ => exact h2 1 (by omega)
  | 4, _ => exact h2 2 (by omega)
  | 5, _ => exact h3 0 (by omega)
  | 6, _ => exact h4 0 (by omega)
  | 7, _ => exact h5 0 (by omega)
  | 8, _ => exact h6 0 (by omega)
theorem rd22 : Rd Tryz.prog 22 1 (pslC 9 Opn.c) := rd_slice Tryz.underlying22 (by kernel_rfl) (by omega) rd34
theorem laidOut : laidOutB Tryz.prog = true := by kernel_rfl
theorem par22 : Tryz.prog.readableRec 22 = true ∧ 22 < Tryz.prog.types.size := ⟨by kernel_rfl, of_decide_eq_true (by kernel_rfl)⟩
theorem par4 : Tryz.prog.readableRec 4 = true ∧ 4 < Tryz.prog.types.size := ⟨by kernel_rfl, of_decide_eq_true (by kernel_rfl)⟩
end Go.Hx
end
section
namespace Go.Hx
open Go.Proofs
set_option maxRecDepth 100000
theorem good5 : goodFn Tryz.prog 5 := ⟨Tryz.f5, Tryz.func5, by kernel_rfl, by kernel_rfl⟩
theorem c5 (l : List Opn) : HPure Tryz.prog 5 [pP (opns l)] (prOf [pB true]) := by
  refine hpure_of (nt := 77) Tryzok Tryz.func5 rfl rfl (Nat.le_of_ble_eq_true rfl) ?_; refine hw_seq ?_; refine hw_region (E := TryzE) Tryzok ?_; refine rq rfl rfl rfl rfl rfl ?_; refine rg_nil ?_; show HW _ _ _ _ _
  (iterate 2 refine hw_seq ?_); refine hw_region (E := TryzE) Tryzok ?_; refine rc rfl rfl rfl rfl rfl rfl good9 (c9) (CoL.refl _) rfl rfl ?_; (iterate 3 refine rq rfl rfl rfl rfl rfl ?_)
  refine rc rfl rfl rfl rfl rfl rfl good10 (c10 l 25) (CoL.refl _) rfl rfl ?_; (iterate 2 refine rq rfl rfl rfl rfl rfl ?_); refine rg_nil ?_; show HW _ _ _ _ _; refine hw_cond _ rfl (fun r0 => ?_) (fun r0 => ?_)
  · skip
    have h0 := r0
    have h0 := not_t h0
    refine hw_seq ?_; refine hw_region (E := TryzE) Tryzok ?_; refine rc rfl rfl rfl rfl rfl rfl good9 (c9) (CoL.refl _) rfl rfl ?_; refine rq rfl rfl rfl rfl rfl ?_; refine rg_nil ?_; show HW _ _ _ _ _; refine hw_ret ?_
    refine ⟨.inr rfl, ?_⟩
    exact ⟨_, _, _, _, rfl, (by (repeat' apply And.intro) <;> first | trivial | exact Nat.le_of_ble_eq_true rfl | rfl), rfl, (by (repeat' apply And.intro) <;> first | trivial | exact Nat.le_of_ble_eq_true rfl | rfl), CoL.refl _⟩
  · skip
    have h0 := r0
    have h0 := not_f h0
    obtain ⟨ho, hlen⟩ := few_ops (l := l) (m := 25) (by simpa using h0)
    have hlen2 : l.length ≤ 25 := by omega
    have h0s := plS_sim sim00 ho
    have h0s : Sim 25 (plS default l) := h0s.mono (by omega)
    obtain ⟨hcs, _, hnow, hopn⟩ := cl_sim h0s
    have hc21 := cl21 (by omega) h0s
    generalize hS : clR (plS default l) = S at hcs hnow hopn hc21
    have hdn : S.done.length ≤ 26 := by have := hcs.n2; omega
    refine hw_skip ?_; show HW _ _ _ _ _; refine hw_seq ?_; refine hw_region (E := TryzE) Tryzok ?_; refine rq rfl rfl rfl rfl rfl ?_
    refine rg_fcall rfl rfl rfl rfl rfl rfl good20 (c20h l (by omega) ho) (CoHCL.refl _) trivial rfl rfl ?_; (iterate 4 refine rq rfl rfl rfl rfl rfl ?_); refine rm 0 rfl rfl rfl rfl rfl rfl ?_; refine rq rfl rfl rfl rfl rfl ?_
    refine rs rfl rfl rfl rfl rfl ?_; refine rq rfl rfl rfl rfl rfl ?_; refine rg_nil ?_; show HW _ _ _ _ _; refine hw_seq ?_; refine hw_region (E := TryzE) Tryzok ?_; (iterate 2 refine rq rfl rfl rfl rfl rfl ?_)
    refine rg_fcall rfl rfl rfl rfl rfl rfl good21 (hc21.swap 1000 900) (CoHCL.refl _) ⟨⟨_, rfl, CoO.refl _⟩, ⟨_, rfl, CoO.refl _⟩, ⟨_, rfl, CoO.refl _⟩, ⟨_, rfl, CoO.refl _⟩, trivial⟩ rfl rfl ?_; refine rs rfl rfl rfl rfl rfl ?_
    refine rg_nil ?_; show HW _ _ _ _ _; refine hw_seq ?_; refine hw_region (E := TryzE) Tryzok ?_; refine rq rfl rfl rfl rfl rfl ?_
    refine rg_fcall rfl rfl rfl rfl rfl rfl good22 ((c22h (strOf S) hcs.dbV).swap 1000 900) (CoHCL.refl _) ⟨⟨_, rfl, CoO.refl _⟩, ⟨_, rfl, CoO.refl _⟩, ⟨_, rfl, CoO.refl _⟩, ⟨_, rfl, CoO.refl _⟩, trivial⟩ rfl rfl ?_
    refine rq rfl rfl rfl rfl rfl ?_
    refine rg_fcall rfl rfl rfl rfl rfl rfl good23 ((jn23 (by omega) hcs).swap 1000 900) (CoHCL.refl _) ⟨⟨_, rfl, CoO.refl _⟩, ⟨_, rfl, CoO.refl _⟩, ⟨_, rfl, CoO.refl _⟩, ⟨_, rfl, CoO.refl _⟩, trivial⟩ rfl rfl ?_
    refine rm 1 rfl rfl rfl rfl rfl rfl ?_; refine rs rfl rfl rfl rfl rfl ?_; refine rq rfl rfl rfl rfl rfl ?_; refine rg_nil ?_; show HW _ _ _ _ _; (iterate 2 refine hw_seq ?_); refine hw_freeze 7 rfl rfl rfl ?_
    refine hw_region (E := TryzE) Tryzok ?_; (iterate 4 refine rq rfl rfl rfl rfl rfl ?_); refine rg_nil ?_; show HW _ _ _ _ _; refine hw_block ?_
    refine hw_loopK (ι := Nat) ⟨[(3, some _), (4, some _), (5, some _), (6, some _), (7, some _), (31, some _)], [(0, some _), (1, some _)]⟩ ⟨⟨⟨_, rfl, CoR.refl _⟩, ⟨_, rfl, CoR.refl _⟩, ⟨_, rfl, CoR.refl _⟩, ⟨_, rfl, CoR.refl _⟩, ⟨_, rfl, CoR.refl _⟩, ⟨_, rfl, CoR.refl _⟩, trivial⟩, ⟨⟨_, rfl, CoO.refl _⟩, ⟨_, rfl, CoO.refl _⟩, trivial⟩⟩ (fun i => ⟨[(32, some (vI i))], [(900, some (.box [.p (tbls (dbOf (unK S i))), .ref 901 (unK S i).done.length, .ref 902 (unK S i).undone.length, .p (.raw (.bool (unK S i).opn)), .ref 903 (unK S i).now.length])), (901, some (.arr false 1 23 (unK S i).done.length (lf txC (unK S i).done))), (902, some (.arr false 1 23 (unK S i).undone.length (lf txC (unK S i).undone))), (903, some (.arr false 11 49 (unK S i).now.length (lf Chg.c (unK S i).now)))]⟩) (fun i => i ≤ S.done.length) (fun i => S.done.length - i) (0) (Nat.zero_le _) ⟨⟨⟨_, rfl, (by first | exact CoR.refl _ | exact coi (by omega) | exact cob (by simp_all))⟩, trivial⟩, ⟨⟨_, rfl, (show CoO (.box [.p (tbls (dbOf S)), .ref 901 S.done.length, .ref 902 S.undone.length, .p (.raw (.bool S.opn)), .ref 903 S.now.length]) (.box [.p (tbls (dbOf (unK S 0))), .ref 901 (unK S 0).done.length, .ref 902 (unK S 0).undone.length, .p (.raw (.bool (unK S 0).opn)), .ref 903 (unK S 0).now.length]) by rw [unK_0 hopn hnow]; exact CoO.refl _)⟩, ⟨_, rfl, (show CoO (.arr false 1 23 S.done.length (lf txC S.done)) (.arr false 1 23 (unK S 0).done.length (lf txC (unK S 0).done)) by rw [unK_0 hopn hnow]; exact CoO.refl _)⟩, ⟨_, rfl, (show CoO (.arr false 1 23 S.undone.length (lf txC S.undone)) (.arr false 1 23 (unK S 0).undone.length (lf txC (unK S 0).undone)) by rw [unK_0 hopn hnow]; exact CoO.refl _)⟩, ⟨_, rfl, (show CoO (.arr false 11 49 S.now.length (lf Chg.c S.now)) (.arr false 11 49 (unK S 0).now.length (lf Chg.c (unK S 0).now)) by rw [unK_0 hopn hnow]; exact CoO.refl _)⟩, trivial⟩⟩ ?_
    rintro i hi
    refine hw_seq ?_; refine hw_region (E := TryzE) Tryzok ?_; refine rq rfl rfl rfl rfl rfl ?_; refine rg_nil ?_; show HW _ _ _ _ _; refine hw_seq ?_; refine hw_cond _ rfl (fun r1 => ?_) (fun r1 => ?_)
    · skip
      have h1 := r1
      have h1 := of_decide_eq_true h1
      try simp only [Int.toNat_natCast] at h1
      refine hw_skip ?_; show HW _ _ _ _ _; refine hw_seq ?_; refine hw_block ?_; refine hw_seq ?_; refine hw_region (E := TryzE) Tryzok ?_; refine rq rfl rfl rfl rfl rfl ?_
      refine rg_fcall rfl rfl rfl rfl rfl rfl good24 ((ud24 (by omega) hcs hopn hnow (by omega)).swap 1000 900) (CoHCL.refl _) ⟨⟨_, rfl, CoO.refl _⟩, ⟨_, rfl, CoO.refl _⟩, ⟨_, rfl, CoO.refl _⟩, ⟨_, rfl, CoO.refl _⟩, trivial⟩ rfl rfl ?_
      refine rq rfl rfl rfl rfl rfl ?_; refine rg_nil ?_; show HW _ _ _ _ _; refine hw_cond _ rfl (fun e => by cases e) (fun _ => ?_); refine hw_skip ?_; show HW _ _ _ _ _; refine hw_region (E := TryzE) Tryzok ?_
      (iterate 2 refine rq rfl rfl rfl rfl rfl ?_); refine rg_nil ?_; refine ⟨i + 1, ?_, ?_, ?_⟩
      · show i + 1 ≤ _; omega
      · first | omega | (dsimp only; omega)
      · exact ⟨⟨⟨_, rfl, (by first | exact CoR.refl _ | exact coi (by omega) | exact cob (by simp_all))⟩, ⟨_, rfl, CoR.refl _⟩, ⟨_, rfl, CoR.refl _⟩, ⟨_, rfl, CoR.refl _⟩, ⟨_, rfl, CoR.refl _⟩, ⟨_, rfl, CoR.refl _⟩, ⟨_, rfl, CoR.refl _⟩, trivial⟩, ⟨⟨_, rfl, CoO.refl _⟩, ⟨_, rfl, CoO.refl _⟩, ⟨_, rfl, CoO.refl _⟩, ⟨_, rfl, CoO.refl _⟩, ⟨_, rfl, CoO.refl _⟩, ⟨_, rfl, CoO.refl _⟩, trivial⟩⟩
    · skip
      have h1 := r1
      have h1 := of_decide_eq_false h1
      try simp only [Int.toNat_natCast] at h1
      obtain rfl : i = S.done.length := by omega
      refine hw_exit ?_; show HW _ _ _ _ _; (iterate 2 refine hw_seq ?_); refine hw_region (E := TryzE) Tryzok ?_; (iterate 4 refine rq rfl rfl rfl rfl rfl ?_)
      refine rg_fcall rfl rfl rfl rfl rfl rfl good24 ((ud16 (by omega) hcs hopn hnow).swap 1000 900) (CoHCL.refl _) ⟨⟨_, rfl, CoO.refl _⟩, ⟨_, rfl, CoO.refl _⟩, ⟨_, rfl, CoO.refl _⟩, ⟨_, rfl, CoO.refl _⟩, trivial⟩ rfl rfl ?_
      (iterate 3 refine rq rfl rfl rfl rfl rfl ?_); refine rq rfl rfl rfl rfl (gff (bif_fk rfl rfl)) ?_
      refine rg_fcall rfl rfl rfl rfl rfl rfl good22 ((db0 hcs hopn hnow).swap 1000 900) (CoHCL.refl _) ⟨⟨_, rfl, CoO.refl _⟩, ⟨_, rfl, CoO.refl _⟩, ⟨_, rfl, CoO.refl _⟩, ⟨_, rfl, CoO.refl _⟩, trivial⟩ rfl (gff (bif_fk rfl rfl)) ?_
      (iterate 3 refine rq rfl rfl rfl rfl (gff (bif_fk rfl rfl)) ?_); (iterate 2 refine rq rfl rfl rfl rfl rfl ?_); refine rq rfl rfl rfl rfl (gff (bif_fk (bif_fk rfl rfl) rfl)) ?_
      refine rg_fcall rfl rfl rfl rfl rfl rfl good23 ((jn0 (by omega) hcs hopn hnow).swap 1000 900) (CoHCL.refl _) ⟨⟨_, rfl, CoO.refl _⟩, ⟨_, rfl, CoO.refl _⟩, ⟨_, rfl, CoO.refl _⟩, ⟨_, rfl, CoO.refl _⟩, trivial⟩ rfl (gff (bif_fk (bif_fk rfl rfl) rfl)) ?_
      (iterate 2 refine rq rfl rfl rfl rfl (gff (bif_fk (bif_fk rfl rfl) rfl)) ?_); refine rq rfl rfl rfl rfl rfl ?_; refine rg_nil ?_; show HW _ _ _ _ _
      refine hw_cond _ rfl (fun e => Bool.noConfusion ((bif_fk (bif_fk (bif_fk rfl rfl) rfl) rfl).symm.trans e)) (fun _ => ?_); refine hw_skip ?_; show HW _ _ _ _ _; (iterate 2 refine hw_seq ?_)
      refine hw_region (E := TryzE) Tryzok ?_; (iterate 4 refine rq rfl rfl rfl rfl rfl ?_); refine rg_nil ?_; show HW _ _ _ _ _; refine hw_block ?_
      refine hw_loopK (ι := Nat) ⟨[(3, some _), (6, some _), (7, some _), (60, some _)], [(1, some _)]⟩ ⟨⟨⟨_, rfl, CoR.refl _⟩, ⟨_, rfl, CoR.refl _⟩, ⟨_, rfl, CoR.refl _⟩, ⟨_, rfl, CoR.refl _⟩, trivial⟩, ⟨⟨_, rfl, CoO.refl _⟩, trivial⟩⟩ (fun i => ⟨[(61, some (vI i))], [(900, some (.box [.p (tbls (dbOf (unK S (S.done.length - i)))), .ref 901 (unK S (S.done.length - i)).done.length, .ref 902 (unK S (S.done.length - i)).undone.length, .p (.raw (.bool (unK S (S.done.length - i)).opn)), .ref 903 (unK S (S.done.length - i)).now.length])), (901, some (.arr false 1 23 (unK S (S.done.length - i)).done.length (lf txC (unK S (S.done.length - i)).done))), (902, some (.arr false 1 23 (unK S (S.done.length - i)).undone.length (lf txC (unK S (S.done.length - i)).undone))), (903, some (.arr false 11 49 (unK S (S.done.length - i)).now.length (lf Chg.c (unK S (S.done.length - i)).now)))]⟩) (fun i => i ≤ S.done.length) (fun i => S.done.length - i) (0) (Nat.zero_le _) ⟨⟨⟨_, rfl, (by first | exact CoR.refl _ | exact coi (by omega) | exact cob (by simp_all))⟩, trivial⟩, ⟨⟨_, rfl, CoO.refl _⟩, ⟨_, rfl, CoO.refl _⟩, ⟨_, rfl, CoO.refl _⟩, ⟨_, rfl, CoO.refl _⟩, trivial⟩⟩ ?_
      rintro i hi
      refine hw_seq ?_; refine hw_region (E := TryzE) Tryzok ?_; refine rq rfl rfl rfl rfl rfl ?_; refine rg_nil ?_; show HW _ _ _ _ _; refine hw_seq ?_; refine hw_cond _ rfl (fun r2 => ?_) (fun r2 => ?_)
      · skip
        have h2 := r2
        have h2 := of_decide_eq_true h2
        try simp only [Int.toNat_natCast] at h2
        have q25 := rd25 (k := S.done.length - i - 1) (by omega) hcs hopn hnow (by omega)
        rw [show S.done.length - i - 1 + 1 = S.done.length - i from by omega] at q25
        refine hw_skip ?_; show HW _ _ _ _ _; refine hw_seq ?_; refine hw_block ?_; refine hw_seq ?_; refine hw_region (E := TryzE) Tryzok ?_; refine rq rfl rfl rfl rfl rfl ?_
        refine rg_fcall rfl rfl rfl rfl rfl rfl good25 ((q25).swap 1000 900) (CoHCL.refl _) ⟨⟨_, rfl, CoO.refl _⟩, ⟨_, rfl, CoO.refl _⟩, ⟨_, rfl, CoO.refl _⟩, ⟨_, rfl, CoO.refl _⟩, trivial⟩ rfl rfl ?_
        refine rq rfl rfl rfl rfl rfl ?_; refine rg_nil ?_; show HW _ _ _ _ _; refine hw_cond _ rfl (fun e => by cases e) (fun _ => ?_); refine hw_skip ?_; show HW _ _ _ _ _; refine hw_region (E := TryzE) Tryzok ?_
        (iterate 2 refine rq rfl rfl rfl rfl rfl ?_); refine rg_nil ?_; refine ⟨i + 1, ?_, ?_, ?_⟩
        · show i + 1 ≤ _; omega
        · first | omega | (dsimp only; omega)
        · exact ⟨⟨⟨_, rfl, (by first | exact CoR.refl _ | exact coi (by omega) | exact cob (by simp_all))⟩, ⟨_, rfl, CoR.refl _⟩, ⟨_, rfl, CoR.refl _⟩, ⟨_, rfl, CoR.refl _⟩, ⟨_, rfl, CoR.refl _⟩, trivial⟩, ⟨⟨_, rfl, CoO.refl _⟩, ⟨_, rfl, CoO.refl _⟩, ⟨_, rfl, CoO.refl _⟩, ⟨_, rfl, CoO.refl _⟩, ⟨_, rfl, CoO.refl _⟩, trivial⟩⟩
      · skip
        have h2 := r2
        have h2 := of_decide_eq_false h2
        try simp only [Int.toNat_natCast] at h2
        obtain rfl : i = S.done.length := by omega
        have e0 : unK S (S.done.length - S.done.length) = S := by rw [Nat.sub_self, unK_0 hopn hnow]
        refine hw_clean ⟨[(3, some _), (6, some _), (7, some _)], [(1, some _), (900, some (.box [.p (tbls (dbOf S)), .ref 901 S.done.length, .ref 902 S.undone.length, .p (.raw (.bool S.opn)), .ref 903 S.now.length])), (901, some (.arr false 1 23 S.done.length (lf txC S.done))), (902, some (.arr false 1 23 S.undone.length (lf txC S.undone))), (903, some (.arr false 11 49 S.now.length (lf Chg.c S.now)))]⟩ ⟨⟨⟨_, rfl, CoR.refl _⟩, ⟨_, rfl, CoR.refl _⟩, ⟨_, rfl, CoR.refl _⟩, trivial⟩, ⟨⟨_, rfl, CoO.refl _⟩, ⟨_, rfl, (show CoO (.box [.p (tbls (dbOf (unK S (S.done.length - S.done.length)))), .ref 901 (unK S (S.done.length - S.done.length)).done.length, .ref 902 (unK S (S.done.length - S.done.length)).undone.length, .p (.raw (.bool (unK S (S.done.length - S.done.length)).opn)), .ref 903 (unK S (S.done.length - S.done.length)).now.length]) (.box [.p (tbls (dbOf S)), .ref 901 S.done.length, .ref 902 S.undone.length, .p (.raw (.bool S.opn)), .ref 903 S.now.length]) by rw [e0]; exact CoO.refl _)⟩, ⟨_, rfl, (show CoO (.arr false 1 23 (unK S (S.done.length - S.done.length)).done.length (lf txC (unK S (S.done.length - S.done.length)).done)) (.arr false 1 23 S.done.length (lf txC S.done)) by rw [e0]; exact CoO.refl _)⟩, ⟨_, rfl, (show CoO (.arr false 1 23 (unK S (S.done.length - S.done.length)).undone.length (lf txC (unK S (S.done.length - S.done.length)).undone)) (.arr false 1 23 S.undone.length (lf txC S.undone)) by rw [e0]; exact CoO.refl _)⟩, ⟨_, rfl, (show CoO (.arr false 11 49 (unK S (S.done.length - S.done.length)).now.length (lf Chg.c (unK S (S.done.length - S.done.length)).now)) (.arr false 11 49 S.now.length (lf Chg.c S.now)) by rw [e0]; exact CoO.refl _)⟩, trivial⟩⟩ ?_
        refine hw_exit ?_; show HW _ _ _ _ _; refine hw_seq ?_; refine hw_draw (E := TryzE) Tryzok Tryzmixed [0, 1, 2, 3, 4, 5, 6, 7, 8, 9, 10] ?_; refine rq rfl rfl rfl rfl rfl ?_
        refine rg_fcall rfl rfl rfl rfl rfl rfl good22 ((c22h (strOf S) hcs.dbV).swap 1000 900) (CoHCL.refl _) ⟨⟨_, rfl, CoO.refl _⟩, ⟨_, rfl, CoO.refl _⟩, ⟨_, rfl, CoO.refl _⟩, ⟨_, rfl, CoO.refl _⟩, trivial⟩ rfl rfl ?_
        refine rq rfl rfl rfl rfl rfl ?_; refine rc rfl rfl rfl rfl rfl rfl good16 (sm16 hcs.dbV.ok) (CoL.refl _) rfl rfl ?_; (iterate 2 refine rq rfl rfl rfl rfl rfl ?_)
        refine rg_fcall rfl rfl rfl rfl rfl rfl good23 ((jn23 (by omega) hcs).swap 1000 900) (CoHCL.refl _) ⟨⟨_, rfl, CoO.refl _⟩, ⟨_, rfl, CoO.refl _⟩, ⟨_, rfl, CoO.refl _⟩, ⟨_, rfl, CoO.refl _⟩, trivial⟩ rfl rfl ?_
        refine rq rfl rfl rfl rfl rfl ?_; refine rc rfl rfl rfl rfl rfl rfl good26 (sm26 (mem_chgsOk hcs.ok1)) (CoL.refl _) rfl rfl ?_; (iterate 2 refine rq rfl rfl rfl rfl rfl ?_); refine rg_nil ?_; refine ⟨by kernel_rfl, ?_⟩
        show HW _ _ _ _ _; refine hw_ret ?_; refine ⟨.inr rfl, ?_⟩
        exact ⟨_, _, _, _, rfl, (by (repeat' apply And.intro) <;> first | trivial | exact Nat.le_of_ble_eq_true rfl | rfl), rfl, (by (repeat' apply And.intro) <;> first | trivial | exact Nat.le_of_ble_eq_true rfl | rfl), CoL.refl _⟩
end Go.Hx
end
section
namespace Go.Hx
open Go.Proofs
structure InTx (S s : Stt) : Prop where
  op : s.opn = true
  dn : s.done = S.done
  un : s.undone = S.undone
section
variable {n : Nat} {S s : Stt}
theorem tx_do (h : InTx S s) {o : Opn} (hk : o.kind.toNat % 9 < 4) : InTx S (doS s o) := by
  have hp : doS s o = s ∨ doS s o = putS s (chOp s o) := by
    unfold doS
    dsimp only
    split
    · exact .inl rfl
    · rw [if_neg (by omega), if_neg (by omega), if_neg (by omega), if_neg (by omega), if_neg (by omega)]
      split
      · exact .inl rfl
      · exact .inr rfl
  rcases hp with e | e
  · rw [e]; exact h
  · rw [e, putS, if_pos h.op]
    exact ⟨h.op, h.dn, h.un⟩
theorem tx_begin (h1 : S.opn = false) : doE S (opK 4) = 0 ∧ InTx S (doS S (opK 4)) := by
  have hk : (opK 4).kind.toNat % 9 = 4 := rfl
  refine ⟨(do4 hk h1).2, ?_⟩
  rw [(do4 hk h1).1]
  exact ⟨rfl, rfl, rfl⟩
theorem stt_ext {a b : Stt} (h1 : a.done = b.done) (h2 : a.undone = b.undone) (h3 : a.opn = b.opn) (h4 : a.now = b.now) : a = b := by
  obtain ⟨a1, a2, a3, a4⟩ := a
  obtain ⟨b1, b2, b3, b4⟩ := b
  simp only at h1 h2 h3 h4
  subst h1 h2 h3 h4
  rfl
theorem tx_rb (h : InTx S s) (h1 : S.opn = false) (h2 : S.now = []) : doE s (opK 6) = 0 ∧ doS s (opK 6) = S := by
  have hk : (opK 6).kind.toNat % 9 = 6 := rfl
  refine ⟨(do6 hk h.op).2, ?_⟩
  rw [(do6 hk h.op).1]
  exact stt_ext h.dn h.un h1.symm h2.symm
theorem tx_com (h : InTx S s) : doE s (opK 5) = 0 := (do5 (x := opK 5) rfl h.op).2
theorem tx_com0 (h : InTx S s) (h1 : S.opn = false) (h2 : S.now = []) (hz : s.now.length = 0) : doS s (opK 5) = S := by
  rw [(do5 (x := opK 5) rfl h.op).1, comS, if_pos hz]
  exact stt_ext h.dn h.un h1.symm h2.symm
theorem tx_com1 (h : InTx S s) (hz : ¬ s.now.length = 0) : doS s (opK 5) = ⟨S.done ++ [s.now], [], false, []⟩ := by
  rw [(do5 (x := opK 5) rfl h.op).1, comS, if_neg hz]
  show (⟨s.done ++ [s.now], [], false, []⟩ : Stt) = _
  rw [h.dn]
theorem tx_len (h : InTx S s) (h1 : S.opn = false) (h2 : S.now = []) : S.done.flatten.length < (doS s (opK 5)).done.flatten.length ↔ ¬ s.now.length = 0 := by
  by_cases hz : s.now.length = 0
  · rw [tx_com0 h h1 h2 hz]
    constructor
    · intro e; omega
    · intro e; exact absurd hz e
  · rw [tx_com1 h hz]
    show S.done.flatten.length < (S.done ++ [s.now]).flatten.length ↔ _
    rw [List.flatten_append, List.length_append]
    simp only [List.flatten_cons, List.flatten_nil, List.append_nil]
    constructor
    · intro _; exact hz
    · intro _; omega
theorem tx_undo (h : InTx S s) (h1 : S.opn = false) (h2 : S.now = []) (hz : ¬ s.now.length = 0) :
    doE (doS s (opK 5)) (opK 7) = 0 ∧ (doS (doS s (opK 5)) (opK 7)).done = S.done ∧ dbOf (doS (doS s (opK 5)) (opK 7)) = dbOf S := by
  rw [tx_com1 h hz]
  have hc : ¬ ((⟨S.done ++ [s.now], [], false, []⟩ : Stt).opn = true ∨ (⟨S.done ++ [s.now], [], false, []⟩ : Stt).done.length = 0) := by
    rw [not_or]
    refine ⟨fun e => (by cases e), ?_⟩
    show ¬ (S.done ++ [s.now]).length = 0
    simp
  have q := do7 (x := opK 7) rfl hc
  refine ⟨q.2, ?_⟩
  have hd : (doS (⟨S.done ++ [s.now], [], false, []⟩ : Stt) (opK 7)).done = S.done := by
    rw [q.1]
    show (S.done ++ [s.now]).take ((S.done ++ [s.now]).length - 1) = S.done
    simp
  refine ⟨hd, ?_⟩
  unfold dbOf jr
  rw [hd, h2]
  congr 2
  rw [q.1]
theorem re_err (h1 : S.opn = false) : doE S (opK 8) = if S.undone.length = 0 then 16 else 0 := by
  by_cases hz : S.undone.length = 0
  · rw [if_pos hz]; exact (do8o (x := opK 8) rfl (.inr hz)).2
  · rw [if_neg hz]; exact (do8 (x := opK 8) rfl (by rw [not_or]; exact ⟨by rw [h1]; decide, hz⟩)).2
def m4 (o : Opn) : Opn := { o with kind := o.kind % 4 }
theorem m4_ok {o : Opn} (h : OpOk o) : OpOk (m4 o) := ⟨h.lv, h.lr⟩
theorem m4_n {o : Opn} : (m4 o).kind.toNat = o.kind.toNat % 4 := by
  show (o.kind % 4).toNat = _
  rw [UInt8.toNat_mod]
  rfl
theorem m4_k {o : Opn} : (m4 o).kind.toNat % 9 < 4 := by rw [m4_n]; omega
end
theorem tu22 {n : Nat} {S U : Stt} (hn : n ≤ 1000000) (h : Sim n U) (e : dbOf U = dbOf S) : HFun Tryz.prog 22 [.one (.ptr 1000 0)] (strOf U).objs (.v (dbpc (dbOf S)).toH) (strOf U).objs [1000] := by
  have q := c22h (strOf U) h.dbV
  rw [show (strOf U).db = dbOf S from e] at q
  exact q
theorem tu23 {n : Nat} {S U : Stt} (hn : n ≤ 1000000) (h : Sim n U) (e : U.done = S.done) : HFun Tryz.prog 23 [.one (.ptr 1000 0)] (strOf U).objs (.v (.one (.ref 911 S.done.flatten.length))) ((strOf U).objs ++ [(911, .arr true 11 49 S.done.flatten.length (lf Chg.c S.done.flatten))]) [1000] := by
  have q := jn23 hn h
  rw [e] at q
  exact q
end Go.Hx
end
