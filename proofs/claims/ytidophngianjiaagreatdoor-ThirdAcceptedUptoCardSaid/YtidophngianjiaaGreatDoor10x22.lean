/- A part of the proof: Cs20 Cs21 Cs22 Cs23 Hx21. -/
import Derived.ChangeArms
import Derived.OpenShut
import Derived.ProofKit
import Derived.WalkKit
import Derived.WideKeyArgs
import Derived.Test.YtidophngianjiaaGreatDoor10x14
import Derived.Test.YtidophngianjiaaGreatDoor10x15
import Derived.Test.YtidophngianjiaaGreatDoor10x21
set_option linter.all false
section
namespace Go.Hx
def orL (ps : List AS) : AS := ps.foldl (· ||| ·) 0
theorem yf {ps : List AS} {i : Nat} (h : i < ps.length) : orL (ps.take (i + 1)) = orL (ps.take i) ||| ps.getD i default := by
 unfold orL
 rw [bt h, List.foldl_append]
 rfl
def b1b (n : Int) (l : List Fd) (ps : List AS) : Bool := decide (orL ps = aq n) && fv l ps && ps.any (eo n l)
def b1i (n : Int) (l : List Fd) (ps : List AS) (s : AS) : List AS := if b1b n l (ps.eraseIdx (idx (fun x => decide (x = s)) ps).toNat) = true then ps.eraseIdx (idx (fun x => decide (x = s)) ps).toNat else ps
def agy (n : Int) (l : List Fd) (p0 : List AS) : Nat → List AS
 | 0 => p0
 | i + 1 => b1i n l (agy n l p0 i) (p0.getD (p0.length - 1 - i) default)
def agd (n : Int) (l : List Fd) : Bool := fv l (ahh n l)
def b3h (n : Int) (l : List Fd) : List AS := if a4a n l 8 = 0 ∧ agd n l = true then agy n l (qz (ahh n l)) (qz (ahh n l)).length else []
def b3d (n : Int) (l : List Fd) : Bool := decide (a4a n l 8 = 0) && agd n l
def b3k (n : Int) (l : List Fd) (p0 : List AS) (i : Nat) (ps : List AS) : Prop := ps = agy n l p0 i ∧ ps.length ≤ p0.length ∧ ∀ j, j < p0.length - i → p0.getD j default ∈ ps
def b0g (n : Int) (l : List Fd) : Option Fd := (gt n l).find? fun f => !jw l (ahh n l) f
def b3u (n : Int) (l : List Fd) : Int := if a4a n l 8 = 0 then (match b0g n l with | some _ => 0 | none => 4) else a4a n l 8
def b43 (n : Int) (l : List Fd) : Fd := if a4a n l 8 = 0 then (match b0g n l with | some f => f | none => ⟨0, 0⟩) else ⟨0, 0⟩
end Go.Hx
end
section
namespace Go.Hx
def spA (l : List Fd) (s : AS) : AS := (aa1 l s).lhs ||| (aa1 l s).rhs
def spB (l : List Fd) (s : AS) : AS := s &&& ~~~(aa1 l s).rhs
theorem kn {a b : AS} : sub (a &&& b) b := az.2 fun i hi h => by rw [BitVec.getLsbD_and, Bool.and_eq_true] at h; exact h.2
theorem d8 {a b : AS} : sub (a &&& b) a := az.2 fun i hi h => by rw [BitVec.getLsbD_and, Bool.and_eq_true] at h; exact h.1
theorem kc {a b c : AS} (h : sub a b) (k : sub a c) : sub a (b &&& c) := az.2 fun i hi ha => by rw [BitVec.getLsbD_and, az.1 h i hi ha, az.1 k i hi ha]; rfl
def agq (l : List Fd) : Nat → List AS → List AS → List AS
 | 0, _, out => out
 | n + 1, todo, out =>
  if todo.length = 0 then out
  else if rt l (todo.getD (todo.length - 1) default) = true then agq l n (todo.take (todo.length - 1) ++ [spA l (todo.getD (todo.length - 1) default), spB l (todo.getD (todo.length - 1) default)]) out
  else agq l n (todo.take (todo.length - 1)) (out ++ [todo.getD (todo.length - 1) default])
def ayz (n : Int) (l : List Fd) : List AS := agq l 6562 [aq n] []
def b41 (n : Int) (l : List Fd) : List AS := if a4a n l 8 = 0 then qz (ayz n l) else []
def b2x (todo : List AS) : Nat := (todo.map fun s => 3 ^ bsz s).sum
def b3w (n : Int) (l : List Fd) (x : Nat × List AS × List AS) : Prop := agq l x.1 x.2.1 x.2.2 = ayz n l ∧ b2x x.2.1 < x.1 ∧ x.2.2.length + x.1 ≤ 6562
end Go.Hx
end
section
namespace Go.Hx
open Go.Proofs
set_option maxRecDepth 100000
def i9 : List Fd := [⟨1, 2⟩, ⟨2, 4⟩]
def a1p : List Fd := [⟨3, 4⟩, ⟨4, 1⟩]
theorem a5f {x y : Fd} {cl : Bool} {f : Nat → Nat → PV} (h0 : CoP (f 0 0) (x.c 0)) (h1 : CoP (f 0 1) (x.c 1)) (h2 : CoP (f 1 0) (y.c 0)) (h3 : CoP (f 1 1) (y.c 1)) : CoP (.sl 2 2 cl f) (fdl [x, y]) :=
 CoP.sl rfl (.inl rfl) (fun h => by cases h) fun i j hi hj => by
  rcases (by omega : i = 0 ∨ i = 1) with rfl | rfl <;> rcases (by omega : j = 0 ∨ j = 1) with rfl | rfl
  · exact h0
  · exact h1
  · exact h2
  · exact h3
end Go.Hx
end
section
namespace Go.Hx
open Go.Proofs
def w1 (l : List Fd) (p : AS) : Int := if av 16 l = 0 ∧ (8 : Int) < bsz p then 3 else av 16 l
section
variable {l : List Fd} {p : AS}
end
section
variable {n : Int} {l : List Fd}
end
end Go.Hx
end
section
namespace Go.Hx
open Go.RowKit Go.ChangeShapes Go.WideShapes Go.ChangeAt
def Rd (P : Program) (t : TypeId) (n : Nat) {α : Type} (c : α → Nat → PV) : Prop :=
 ∀ (H : Type) (enc : TypeId × Value → H) (w : World) (sp : Nat → Bool) (held : Bool) (fuel : Nat) (cs : List Value) (x : DataW H × List MemPlace), DataW.trod enc P w 0 sp held fuel t cs = some x →
  cs.length = n ∧ ∃ a : α, ∀ j, j < n → ∃ v, cs[j]? = some v ∧ b8 (fe w) (c a j) v
section
variable {P : Program} {t e : TypeId}
def b3x (k : IntKind) (z : Int) : Nat → PV := fun _ => .raw (.int k z)
def b3g (b : Bool) : Nat → PV := fun _ => .raw (.bool b)
def b3j (s : ByteArray) : Nat → PV := fun _ => .raw (.string s)
def u8P (u : UInt8) : Nat → PV := fun _ => .raw (.int .u8 (u.toNat : Int))
theorem b0y (ht : P.underlying t = some (.int .u8)) : Rd P t 1 u8P := by
 intro H enc w sp held fuel cs x h
 obtain ⟨n, rfl, _, hw⟩ := DataW.trod_int ht h
 have hx : 0 ≤ n ∧ n ≤ 255 := by simpa [Lit.wf, IntKind.min, IntKind.max, IntKind.signed, IntKind.bits] using hw
 refine ⟨rfl, UInt8.ofNat n.toNat, fun j hj => ?_⟩
 obtain rfl : j = 0 := by omega
 refine ⟨_, rfl, ?_, rfl⟩
 have : (UInt8.ofNat n.toNat).toNat = n.toNat := by
  rw [UInt8.toNat_ofNat']
  omega
 rw [this]
 congr 1
 omega
theorem Rd.co {n : Nat} {α β : Type} {c : α → Nat → PV} {c' : β → Nat → PV} (h : Rd P t n c) (f : α → β) (hc : ∀ a j, j < n → CoP (c a j) (c' (f a) j)) : Rd P t n c' := by
 intro H enc w sp held fuel cs x hx
 obtain ⟨h1, a, h2⟩ := h _ enc w sp held fuel cs x hx
 refine ⟨h1, f a, fun j hj => ?_⟩
 obtain ⟨v, h3, h4⟩ := h2 j hj
 exact ⟨v, h3, hc a j hj _ _ h4⟩
def b04 {α : Type} [Inhabited α] (s : Nat) (c : α → Nat → PV) (l : List α) : Nat → PV := fun _ => psl s c l
theorem an0 {H : Type} {enc : TypeId × Value → H} {w : World} {sp : Nat → Bool} {held : Bool} {fuel : Nat} {cs : List Value} {x : DataW H × List MemPlace} {fs : Array Field} (ht : P.underlying t = some (.struct fs)) (h : DataW.trod enc P w 0 sp held fuel t cs = some x) :
 cs.length = P.cellsOf t ∧ ∃ n, ∀ (i : Nat) (f : Field), fs[i]? = some f → ∃ y, DataW.trod enc P w 0 sp held n f.type ((cs.drop f.offset).take (P.cellsOf f.type)) = some y := by
 obtain ⟨xs, n, _, _, h1, h2, h3⟩ := DataW.trod_struct ht h
 refine ⟨h1, n, fun i f hf => ?_⟩
 have := h3 i f hf
 rw [this]
 have hi : i < xs.length := by rw [h2]; exact (Array.getElem?_eq_some_iff.1 hf).1
 exact ⟨_, List.getElem?_eq_getElem hi⟩
theorem acx {H : Type} {enc : TypeId × Value → H} {w : World} {sp : Nat → Bool} {held : Bool} {n off s : Nat} {ft : TypeId} {cs : List Value} {y : DataW H × List MemPlace} {α : Type} {c : α → Nat → PV} (h : Rd P ft s c) (hy : DataW.trod enc P w 0 sp held n ft ((cs.drop off).take (P.cellsOf ft)) = some y) :
 ∃ a : α, ∀ j, j < s → ∃ v, cs[off + j]? = some v ∧ b8 (fe w) (c a j) v := by
 obtain ⟨h1, a, h2⟩ := h _ enc w sp held n _ y hy
 refine ⟨a, fun j hj => ?_⟩
 obtain ⟨v, h3, h4⟩ := h2 j hj
 refine ⟨v, ?_, h4⟩
 rw [List.getElem?_take] at h3
 split at h3
 · rwa [List.getElem?_drop] at h3
 · cases h3
end
theorem a9n {W W' : World} (hb : Below W.heap.size W W') (may : MemPlace → Prop) : W.keptBut W' may := by
 refine ⟨hb.os, hb.output, fun i hi => ?_⟩
 rw [hb.block i hi]
 cases W.heap[i]? with
 | none => exact rfl
 | some o => cases o <;> first | exact ⟨rfl, rfl, rfl, fun _ _ => rfl⟩ | exact .inr ⟨rfl, rfl⟩ | exact rfl
theorem a9o {W W' : World} (hb : Below W.heap.size W W') (p : MemPlace) (hp : p.block < W.heap.size) : W.sameAt W' p := by
 cases p with
 | cell b off => show W'.cell? _ = W.cell? _; unfold World.cell?; rw [hb.block b hp]
 | map b => exact hb.block b hp
section
variable {H : Type} {enc : TypeId × Value → H} {P : Program}
theorem yt (hl : laidOutB P = true) {W W' : World} {sp' : Nat → Bool} : ∀ {ts : List TypeId} {vs : List Value} {ds : List (DataW H)} {ps : List MemPlace}, (∀ t ∈ ts, P.readableRec t = true ∧ t < P.types.size) → DataW.TrodAll enc P W 0 (fun _ => true) true ts vs ds ps →
 (∀ p ∈ ps, W.sameAt W' p) → (∀ p ∈ ps, sp' p.block = true) → DataW.TrodAll enc P W' 0 sp' true ts vs ds ps
 | [], [], [], ps, _, h, _, _ => h
 | t :: ts, v :: vs, d :: ds, ps, ht, ⟨p, q, h1, h2, e⟩, hs, hsp => by
  subst e
  refine ⟨p, q, WideElems.Trod_stays hl (ht t (by simp)).1 (ht t (by simp)).2 h1 (fun z hz => hs z (by simp [hz])) (fun z hz => hsp z (by simp [hz])), ?_, rfl⟩
  exact yt hl (fun t ht' => ht t (by simp [ht'])) h2 (fun z hz => hs z (by simp [hz])) (fun z hz => hsp z (by simp [hz]))
 | [], _ :: _, _, _, _, h, _, _ => h.elim
 | [], [], _ :: _, _, _, h, _, _ => h.elim
 | _ :: _, [], _, _, _, h, _, _ => h.elim
 | _ :: _, _ :: _, [], _, _, h, _, _ => h.elim
theorem aqq {f : Func} {s : ChangeSpec} {W W' : World} {args : Array Value} {ds : List (DataW H)} {before : List MemPlace} {tb : TypeId} (hl : laidOutB P = true) (hpar : ∀ t ∈ f.params.toList, P.readableRec t = true ∧ t < P.types.size)
 (hres : f.resultTypes = #[tb]) (htb : P.underlying tb = some .bool) (hv : s.vars = []) (hfn : s.fn H ds = { results := [.lit (.bool true)], args := ds })
 (hW : DataW.Whole enc P f.params.toList s.vars false W args.toList ds [] before) (hb : Below W.heap.size W W') : s.post enc P f false true false false W args (.bool true) W' := by
 have hW' := hW
 have hlt : ∀ p ∈ before, p.block < W.heap.size := fun p hp => hW.lt p hp
 obtain ⟨p, q, hA, hV, rfl, hfz, hnd⟩ := hW
 rw [hv] at hV
 obtain ⟨_, rfl⟩ := trodVars_none hV
 have hfn' : s.fn H (ds ++ []) = { results := [.lit (.bool true)], args := ds } := by rw [List.append_nil]; exact hfn
 have hargs : ∀ sp : Nat → Bool, (∀ z ∈ p ++ [], sp z.block = true) → DataW.TrodAll enc P W' 0 sp true f.params.toList args.toList (s.fn H (ds ++ [])).args p := fun sp hsp => by
  rw [hfn']
  exact yt hl hpar hA (fun z hz => a9o hb z (hlt z (by simpa using hz))) (fun z hz => hsp z (by simpa using hz))
 have hrs : ∀ (b : Nat) (sp : Nat → Bool) (hd : Bool), DataW.TrodAll enc P W' b sp hd f.resultTypes.toList ((Value.bool true).resultList f.resultTypes.size) (s.fn H (ds ++ [])).results [] := fun b sp hd => by
  rw [hfn', hres]
  exact trodAll_cons_mk (shut_bool htb _) trodAll_mk0
 have hok : ∀ (j : Nat) (t : TypeId) (r : Value), f.resultTypes[j]? = some t → ((Value.bool true).resultList f.resultTypes.size)[j]? = some r → Value.okWide P W' .any 0 t r := ok_one hres rfl (okWide_bool_mk htb _)
 have hvars : ∀ sp : Nat → Bool, (∀ z ∈ p ++ [], sp z.block = true) → DataW.TrodVars enc P W' sp s.vars (s.fn H (ds ++ [])).vars [] := fun sp _ => by
  rw [hfn', hv]; exact rfl
 have hold : ∀ z ∈ p ++ [], (fun b => decide (b < W.heap.size)) z.block = true := fun z hz => by simpa using hlt z hz
 refine ⟨ds, [], p ++ [], [], p, [], hW', hrs _ _ _, hargs _ hold, hvars _ hold, World.keptBut_mono (fun z hz => ⟨hz, ?_⟩) (a9n hb (· ∈ p ++ [])), fun _ => ?_⟩
 · exact Or.inr (by simpa using hz)
 · refine ⟨hok, _, _, ([] ++ p) ++ [], ⟨[] ++ p, [], trodAll_append (hargs _ (fun _ _ => rfl)) (hrs _ _ _), hvars _ (fun _ _ => rfl), rfl, ?_, ?_⟩, ?_⟩
   · intro b off hp
     have hp' : MemPlace.cell b off ∈ p ++ [] := by simpa using hp
     have := hfz b off hp'
     unfold World.frozen? at this ⊢
     rw [hb.block b (hlt _ hp')]
     exact this
   · intro ha; cases ha
   · intro z hz _
     simpa using hz
end
theorem ak9 {P : Program} {f : FuncId} {args : List PC} {us : List Value} {W : World} {R : Ending → World → Prop} (ht : oo (fe W)) (h : ah P f args (ap [.one (.raw (.bool true))])) (hr : cq (fe W) args us) (hR : ∀ W', Below W.heap.size W W' → R (.returned (.bool true)) W') : Calls P f us.toArray W R := by
 refine (h W (fe W) us ht (fun _ _ hh => hh) hr).mono ?_
 rintro e w' ⟨v, imm', rfl, hv, _, _, hb⟩
 obtain ⟨rfl, _⟩ := hv
 exact hR w' hb
end Go.Hx
end
