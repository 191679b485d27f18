/- A part of the proof: lemmas for the theorem of this claim, merged by a program of ours out of W38, Sp17, Hx21, Sp18, Sp21. -/
import Derived.ChangeArms
import Derived.OpenShut
import Derived.ProofKit
import Derived.Test.YtdcdbghdgjlhhaaGreatRows
import Derived.WalkKit
import Derived.WideKeyArgs
import Derived.Test.YtdcdbghdgjlhhaaGreatN12
import Derived.Test.YtdcdbghdgjlhhaaGreatN13
import Derived.Test.YtdcdbghdgjlhhaaGreatN29
import Derived.Test.YtdcdbghdgjlhhaaGreatN32
set_option linter.all false
section
namespace Go.Hx
open Go.Proofs
set_option maxRecDepth 100000
theorem good9 : goodFn Tryz.prog 9 := ⟨Tryz.f9, Tryz.func9, by kernel_rfl, by kernel_rfl⟩
theorem c9  : HPure Tryz.prog 9 [] (prOf [pB true]) := by
  refine hpure_of (nt := 105) Tryzok Tryz.func9 rfl rfl (Nat.le_of_ble_eq_true rfl) ?_; refine hw_seq ?_; refine hw_region (E := TryzE) Tryzok ?_; refine rq rfl rfl rfl rfl rfl ?_; refine rg_nil ?_; show HW _ _ _ _ _
  refine hw_seq ?_; refine hw_region (E := TryzE) Tryzok ?_; refine rg_fcall rfl rfl rfl rfl rfl rfl good17 (c17h) (CoHCL.refl _) trivial rfl rfl ?_; refine rm 0 rfl rfl rfl rfl rfl rfl ?_; refine rs rfl rfl rfl rfl rfl ?_
  refine rg_nil ?_; show HW _ _ _ _ _; refine hw_seq ?_; refine hw_regionN [0] [1, 2, 3, 4, 5] rfl ?_; refine rn_reg (E := TryzE) Tryzok ?_; refine rm 1 rfl rfl rfl rfl rfl rfl ?_; refine rg_nil ?_; refine rn_he ?_
  refine he_freeze 7 rfl rfl rfl ?_; refine he_done ?_; refine rn_reg (E := TryzE) (L1 := [1]) (L2 := [2, 3, 4, 5]) Tryzok ?_; refine rm 2 rfl rfl rfl rfl rfl rfl ?_; refine rg_nil ?_; refine rn_he ?_
  refine he_freeze 8 rfl rfl rfl ?_; refine he_done ?_; refine rn_reg (E := TryzE) (L1 := [2, 3, 4, 5]) (L2 := []) Tryzok ?_; refine rq rfl rfl rfl rfl rfl ?_
  refine rc rfl rfl rfl rfl rfl rfl good36 (c36 ⟨0, 0, [[11]]⟩ 1 (by omega) (by show 1 ≤ 68719476736; omega)) (⟨CoC.agg ⟨CoP.refl _, CoP.refl _, (CoP.sl rfl (.inl rfl) (fun h => h) (lt1b (lt1 (CoP.sl rfl (.inl rfl) (fun h => h) (lt1b (lt1 (CoP.refl _))))))), trivial⟩, CoC.refl _, trivial⟩) rfl rfl ?_
  refine rm 3 rfl rfl rfl rfl rfl rfl ?_; refine rs rfl rfl rfl rfl rfl ?_; refine rg_nil ?_; refine rn_nil ?_; show HW _ _ _ _ _; refine hw_seq ?_; refine hw_region (E := TryzE) Tryzok ?_; refine rq rfl rfl rfl rfl rfl ?_
  refine rg_nil ?_; show HW _ _ _ _ _; refine hw_seq ?_; refine hw_region (E := TryzE) Tryzok ?_; (iterate 2 refine rq rfl rfl rfl rfl rfl ?_); refine rg_nil ?_; show HW _ _ _ _ _; (iterate 2 refine hw_seq ?_)
  refine hw_draw (E := TryzE) Tryzok Tryzmixed [0, 1, 2, 3, 4, 5, 6, 7, 8, 9, 10, 11, 12, 13, 14, 15, 16, 17, 18, 19, 20, 21, 22, 23, 24, 25, 26, 27, 28, 29, 30] ?_; (iterate 2 refine rq rfl rfl rfl rfl rfl ?_)
  refine rg_fcall rfl rfl rfl rfl rfl rfl good31 ((awC (by omega) s0 opC_ok rfl e1).swap 1000 900) (CoHCL.refl _) ⟨⟨_, rfl, CoO.refl _⟩, ⟨_, rfl, CoO.refl _⟩, ⟨_, rfl, CoO.refl _⟩, ⟨_, rfl, CoO.refl _⟩, trivial⟩ rfl rfl ?_
  (iterate 4 refine rq rfl rfl rfl rfl rfl ?_); refine rc rfl rfl rfl rfl rfl rfl good37 (c37 2) (CoL.refl _) rfl rfl ?_
  refine rg_fcall rfl rfl rfl rfl rfl rfl good34 ((awI (by omega) s1 opI_ok rfl e2).swap 1000 900) (CoHCL.refl _) ⟨⟨_, rfl, CoO.refl _⟩, ⟨_, rfl, CoO.refl _⟩, ⟨_, rfl, CoO.refl _⟩, ⟨_, rfl, CoO.refl _⟩, trivial⟩ rfl rfl ?_
  (iterate 3 refine rq rfl rfl rfl rfl rfl ?_); refine rq rfl rfl rfl rfl (gff (bif_fk rfl rfl)) ?_
  refine rg_fcall rfl rfl rfl rfl rfl rfl good24 ((awU (by omega) s2 opK_ok rfl e3).swap 1000 900) (CoHCL.refl _) ⟨⟨_, rfl, CoO.refl _⟩, ⟨_, rfl, CoO.refl _⟩, ⟨_, rfl, CoO.refl _⟩, ⟨_, rfl, CoO.refl _⟩, trivial⟩ rfl (gff (bif_fk rfl rfl)) ?_
  refine rq rfl rfl rfl rfl (gff (bif_fk rfl rfl)) ?_; (iterate 2 refine rq rfl rfl rfl rfl rfl ?_); refine rq rfl rfl rfl rfl (gff (bif_fk (bif_fk rfl rfl) rfl)) ?_
  refine rg_fcall rfl rfl rfl rfl rfl rfl good38 (((aw38 s3.dbV k3).swap 1000 900).swap 1001 0) (CoHCL.refl _) ⟨⟨_, rfl, CoO.refl _⟩, ⟨_, rfl, CoO.refl _⟩, ⟨_, rfl, CoO.refl _⟩, ⟨_, rfl, CoO.refl _⟩, ⟨_, rfl, CoO.refl _⟩, trivial⟩ rfl (gff (bif_fk (bif_fk rfl rfl) rfl)) ?_
  refine rq rfl rfl rfl rfl (gff (bif_fk (bif_fk rfl rfl) rfl)) ?_; (iterate 2 refine rq rfl rfl rfl rfl rfl ?_); refine rq rfl rfl rfl rfl (gff (bif_fk (bif_fk (bif_fk rfl rfl) rfl) rfl)) ?_
  refine rg_fcall rfl rfl rfl rfl rfl rfl good25 ((awR (by omega) s3 opK_ok rfl e4).swap 1000 900) (CoHCL.refl _) ⟨⟨_, rfl, CoO.refl _⟩, ⟨_, rfl, CoO.refl _⟩, ⟨_, rfl, CoO.refl _⟩, ⟨_, rfl, CoO.refl _⟩, trivial⟩ rfl (gff (bif_fk (bif_fk (bif_fk rfl rfl) rfl) rfl)) ?_
  refine rq rfl rfl rfl rfl (gff (bif_fk (bif_fk (bif_fk rfl rfl) rfl) rfl)) ?_; (iterate 2 refine rq rfl rfl rfl rfl rfl ?_); refine rq rfl rfl rfl rfl (gff (bif_fk (bif_fk (bif_fk (bif_fk rfl rfl) rfl) rfl) rfl)) ?_
  refine rg_fcall rfl rfl rfl rfl rfl rfl good38 (((aw38 s4.dbV k4).swap 1000 900).swap 1001 0) (CoHCL.refl _) ⟨⟨_, rfl, CoO.refl _⟩, ⟨_, rfl, CoO.refl _⟩, ⟨_, rfl, CoO.refl _⟩, ⟨_, rfl, CoO.refl _⟩, ⟨_, rfl, CoO.refl _⟩, trivial⟩ rfl (gff (bif_fk (bif_fk (bif_fk (bif_fk rfl rfl) rfl) rfl) rfl)) ?_
  refine rq rfl rfl rfl rfl (gff (bif_fk (bif_fk (bif_fk (bif_fk rfl rfl) rfl) rfl) rfl)) ?_; refine rq rfl rfl rfl rfl rfl ?_; refine rg_nil ?_; refine ⟨by kernel_rfl, ?_⟩; show HW _ _ _ _ _
  refine hw_cond _ rfl (fun e => Bool.noConfusion ((bif_fk (bif_fk (bif_fk (bif_fk (bif_fk rfl rfl) rfl) rfl) rfl) rfl).symm.trans e)) (fun _ => ?_); refine hw_skip ?_; show HW _ _ _ _ _; (iterate 2 refine hw_seq ?_)
  refine hw_draw (E := TryzE) Tryzok Tryzmixed [0, 1, 2, 3, 4, 5, 6, 7, 8, 9, 10, 11, 12, 13, 14, 15, 16, 17, 18, 19, 20, 21, 22, 23, 24, 25, 26, 27, 28, 29] ?_; refine rq rfl rfl rfl rfl rfl ?_
  refine rg_fcall rfl rfl rfl rfl rfl rfl good24 ((awU (by omega) s4 opK_ok rfl e5).swap 1000 900) (CoHCL.refl _) ⟨⟨_, rfl, CoO.refl _⟩, ⟨_, rfl, CoO.refl _⟩, ⟨_, rfl, CoO.refl _⟩, ⟨_, rfl, CoO.refl _⟩, trivial⟩ rfl rfl ?_
  (iterate 4 refine rq rfl rfl rfl rfl rfl ?_); refine rc rfl rfl rfl rfl rfl rfl good37 (c37 3) (CoL.refl _) rfl rfl ?_
  refine rg_fcall rfl rfl rfl rfl rfl rfl good34 ((awI (by omega) s5 opI_ok rfl e6).swap 1000 900) (CoHCL.refl _) ⟨⟨_, rfl, CoO.refl _⟩, ⟨_, rfl, CoO.refl _⟩, ⟨_, rfl, CoO.refl _⟩, ⟨_, rfl, CoO.refl _⟩, trivial⟩ rfl rfl ?_
  (iterate 3 refine rq rfl rfl rfl rfl rfl ?_); refine rq rfl rfl rfl rfl (gff (bif_fk rfl rfl)) ?_
  refine rg_fcall rfl rfl rfl rfl rfl rfl good25 ((awR (by omega) s6 opK_ok rfl e7).swap 1000 900) (CoHCL.refl _) ⟨⟨_, rfl, CoO.refl _⟩, ⟨_, rfl, CoO.refl _⟩, ⟨_, rfl, CoO.refl _⟩, ⟨_, rfl, CoO.refl _⟩, trivial⟩ rfl (gff (bif_fk rfl rfl)) ?_
  refine rq rfl rfl rfl rfl (gff (bif_fk rfl rfl)) ?_; (iterate 2 refine rq rfl rfl rfl rfl rfl ?_); refine rq rfl rfl rfl rfl (gff (bif_fk (bif_fk rfl rfl) rfl)) ?_
  refine rg_fcall rfl rfl rfl rfl rfl rfl good27 ((awB s7 opK_ok rfl e8).swap 1000 900) (CoHCL.refl _) ⟨⟨_, rfl, CoO.refl _⟩, ⟨_, rfl, CoO.refl _⟩, ⟨_, rfl, CoO.refl _⟩, ⟨_, rfl, CoO.refl _⟩, trivial⟩ rfl (gff (bif_fk (bif_fk rfl rfl) rfl)) ?_
  refine rq rfl rfl rfl rfl (gff (bif_fk (bif_fk rfl rfl) rfl)) ?_; (iterate 2 refine rq rfl rfl rfl rfl rfl ?_); refine rq rfl rfl rfl rfl (gff (bif_fk (bif_fk (bif_fk rfl rfl) rfl) rfl)) ?_
  refine rg_fcall rfl rfl rfl rfl rfl rfl good39 ((awD (by omega) s8 opD_ok rfl e9).swap 1000 900) (CoHCL.refl _) ⟨⟨_, rfl, CoO.refl _⟩, ⟨_, rfl, CoO.refl _⟩, ⟨_, rfl, CoO.refl _⟩, ⟨_, rfl, CoO.refl _⟩, trivial⟩ rfl (gff (bif_fk (bif_fk (bif_fk rfl rfl) rfl) rfl)) ?_
  refine rq rfl rfl rfl rfl (gff (bif_fk (bif_fk (bif_fk rfl rfl) rfl) rfl)) ?_; (iterate 2 refine rq rfl rfl rfl rfl rfl ?_); refine rq rfl rfl rfl rfl (gff (bif_fk (bif_fk (bif_fk (bif_fk rfl rfl) rfl) rfl) rfl)) ?_
  refine rg_fcall rfl rfl rfl rfl rfl rfl good29 ((awX (by omega) s9 opK_ok rfl e10).swap 1000 900) (CoHCL.refl _) ⟨⟨_, rfl, CoO.refl _⟩, ⟨_, rfl, CoO.refl _⟩, ⟨_, rfl, CoO.refl _⟩, ⟨_, rfl, CoO.refl _⟩, trivial⟩ rfl (gff (bif_fk (bif_fk (bif_fk (bif_fk rfl rfl) rfl) rfl) rfl)) ?_
  refine rq rfl rfl rfl rfl (gff (bif_fk (bif_fk (bif_fk (bif_fk rfl rfl) rfl) rfl) rfl)) ?_; refine rq rfl rfl rfl rfl rfl ?_; refine rg_nil ?_; refine ⟨by kernel_rfl, ?_⟩; show HW _ _ _ _ _
  refine hw_cond _ rfl (fun e => Bool.noConfusion ((bif_fk (bif_fk (bif_fk (bif_fk (bif_fk rfl rfl) rfl) rfl) rfl) rfl).symm.trans e)) (fun _ => ?_); refine hw_skip ?_; show HW _ _ _ _ _; refine hw_seq ?_
  refine hw_region (E := TryzE) Tryzok ?_; refine rq rfl rfl rfl rfl rfl ?_
  refine rg_fcall rfl rfl rfl rfl rfl rfl good22 ((aw22).swap 1000 900) (CoHCL.refl _) ⟨⟨_, rfl, CoO.refl _⟩, ⟨_, rfl, CoO.refl _⟩, ⟨_, rfl, CoO.refl _⟩, ⟨_, rfl, CoO.refl _⟩, trivial⟩ rfl rfl ?_
  refine rm 4 rfl rfl rfl rfl rfl rfl ?_; refine rs rfl rfl rfl rfl rfl ?_; refine rg_nil ?_; show HW _ _ _ _ _; refine hw_seq ?_; refine hw_region (E := TryzE) Tryzok ?_; (iterate 14 refine rq rfl rfl rfl rfl rfl ?_)
  (iterate 9 refine rq rfl rfl rfl rfl (gtt (bif_tk rfl rfl)) ?_); (iterate 2 refine rq rfl rfl rfl rfl rfl ?_); refine rq rfl rfl rfl rfl (gtt (bif_tk (bif_tk rfl rfl) rfl)) ?_
  refine rg_fcall rfl rfl rfl rfl rfl rfl good23 ((aw23).swap 1000 900) (CoHCL.refl _) ⟨⟨_, rfl, CoO.refl _⟩, ⟨_, rfl, CoO.refl _⟩, ⟨_, rfl, CoO.refl _⟩, ⟨_, rfl, CoO.refl _⟩, trivial⟩ rfl (gtt (bif_tk (bif_tk rfl rfl) rfl)) ?_
  (iterate 2 refine rq rfl rfl rfl rfl (gtt (bif_tk (bif_tk rfl rfl) rfl)) ?_); (iterate 2 refine rq rfl rfl rfl rfl rfl ?_); refine rg_nil ?_; show HW _ _ _ _ _; refine hw_ret ?_; refine ⟨.inr rfl, ?_⟩
  exact ⟨_, _, _, _, rfl, (by (repeat' apply And.intro) <;> first | trivial | exact Nat.le_of_ble_eq_true rfl | rfl), rfl, (by (repeat' apply And.intro) <;> first | trivial | exact Nat.le_of_ble_eq_true rfl | rfl), CoL.refl _⟩
end Go.Hx
end
section
namespace Go.Hx
open Go.Proofs
section
variable {n : Nat} {s : Stt}
theorem mem_chgsOk {l : List Chg} (h : ∀ c ∈ l, c.ok) : chgsOk l := fun j hj => by rw [getD_lt _ _ hj]; exact h _ (List.getElem_mem hj)
theorem sm16 {d : DB} (hd : dbOk d) : HPure Tryz.prog 16 [dbpc d, dbpc d] (prOf [pB true]) := by
  have q := c16 d d hd hd
  rw [decide_eq_true rfl] at q
  exact q
theorem ag19 (hn : n ≤ 1000000) (h : Sim n s) : HFun Tryz.prog 19 [.one (.ptr 1000 0), s.pc.toH] (strOf s).objs (.v (.one (.p (.raw (.bool true))))) (strOf s).objs [1000] := by
  have q := c19h (strOf s) s (h.sok (by omega)) (by have := h.n1; show s.done.flatten.length ≤ _; omega) (fun i k hi hk => by
    have hi : i < s.done.length := hi
    have hk : k < (s.done.getD i default).length := hk
    show ((s.done.getD i default).getD k default).ok
    rw [getD_lt _ _ hi] at hk ⊢
    rw [getD_lt _ _ hk]
    exact h.ok1 _ (List.mem_flatten.2 ⟨_, List.getElem_mem hi, List.getElem_mem hk⟩)) (h.st (by omega)) (mem_chgsOk h.ok1) (mem_chgsOk h.ok1)
  rw [show (decide ((strOf s).db = dbOf s) && decide ((strOf s).done.flatten = s.done.flatten)) = true from by
    rw [decide_eq_true (show (strOf s).db = dbOf s from rfl), decide_eq_true (show (strOf s).done.flatten = s.done.flatten from rfl)]; rfl] at q
  exact q
def unK (s : Stt) (k : Nat) : Stt := ⟨s.done.take (s.done.length - k), s.undone ++ (s.done.drop (s.done.length - k)).reverse, false, []⟩
end
end Go.Hx
end
section
namespace Go.Hx
open Go.RowKit Go.ChangeShapes Go.WideShapes Go.ChangeAt
def Rd (P : Program) (t : TypeId) (n : Nat) {α : Type} (c : α → Nat → PV) : Prop :=
  ∀ (H : Type) (enc : TypeId × Value → H) (w : World) (sp : Nat → Bool) (held : Bool) (fuel : Nat) (cs : List Value) (x : DataW H × List MemPlace), DataW.trod enc P w 0 sp held fuel t cs = some x →
    cs.length = n ∧ ∃ a : α, ∀ j, j < n → ∃ v, cs[j]? = some v ∧ RepP (nowImm w) (c a j) v
section
variable {P : Program} {t e : TypeId}
def intC (k : IntKind) (z : Int) : Nat → PV := fun _ => .raw (.int k z)
def boolC (b : Bool) : Nat → PV := fun _ => .raw (.bool b)
def byteC (s : ByteArray) : Nat → PV := fun _ => .raw (.string s)
theorem rd_int {k : IntKind} (ht : P.underlying t = some (.int k)) : Rd P t 1 (intC k) := by
  intro H enc w sp held fuel cs x h
  obtain ⟨n, rfl, _, _⟩ := DataW.trod_int ht h
  refine ⟨rfl, n, fun j hj => ?_⟩
  obtain rfl : j = 0 := by omega
  exact ⟨_, rfl, rfl, rfl⟩
def u8P (u : UInt8) : Nat → PV := fun _ => .raw (.int .u8 (u.toNat : Int))
theorem rd_u8 (ht : P.underlying t = some (.int .u8)) : Rd P t 1 u8P := by
  intro H enc w sp held fuel cs x h
  obtain ⟨n, rfl, _, hw⟩ := DataW.trod_int ht h
  have hx : 0 ≤ n ∧ n ≤ 255 := by simpa [Lit.wf, IntKind.min, IntKind.max, IntKind.signed, IntKind.bits] using hw
  refine ⟨rfl, UInt8.ofNat n.toNat, fun j hj => ?_⟩
  obtain rfl : j = 0 := by omega
  refine ⟨_, rfl, ?_, rfl⟩
  have : (UInt8.ofNat n.toNat).toNat = n.toNat := by
    rw [UInt8.toNat_ofNat']
    omega
  rw [this]
  congr 1
  omega
theorem Rd.co {n : Nat} {α β : Type} {c : α → Nat → PV} {c' : β → Nat → PV} (h : Rd P t n c) (f : α → β) (hc : ∀ a j, j < n → CoP (c a j) (c' (f a) j)) : Rd P t n c' := by
  intro H enc w sp held fuel cs x hx
  obtain ⟨h1, a, h2⟩ := h _ enc w sp held fuel cs x hx
  refine ⟨h1, f a, fun j hj => ?_⟩
  obtain ⟨v, h3, h4⟩ := h2 j hj
  exact ⟨v, h3, hc a j hj _ _ h4⟩
def pslC {α : Type} [Inhabited α] (s : Nat) (c : α → Nat → PV) (l : List α) : Nat → PV := fun _ => psl s c l
theorem rd_slice {s : Nat} {α : Type} [Inhabited α] {c : α → Nat → PV} (ht : P.underlying t = some (.slice e)) (hc : P.cellsOf e = s) (hs : 0 < s) (h : Rd P e s c) : Rd P t 1 (pslC s c) := by
  classical
  intro H enc w sp held fuel cs x hx
  rcases DataW.trod_slice ht hx with ⟨rfl, _⟩ | ⟨a, len, cap, elems, rest, n, rfl, rfl, _, hb, hl, hm, hlen, hel, _, _⟩
  · refine ⟨rfl, [], fun j hj => ?_⟩
    obtain rfl : j = 0 := by omega
    exact ⟨_, rfl, none, 0, rfl, Nat.le_refl _, Nat.zero_le _, (fun hh => by cases hh), fun hh => absurd hh (Nat.lt_irrefl 0)⟩
  · have each : ∀ i, i < len → ∃ q : α, ∀ j, j < s → ∃ v, w.cell? (a.add (i * s + j)) = some v ∧ RepP (nowImm w) (c q j) v := by
      intro i hi
      have h1 := hel i hi
      rw [hc] at h1
      rw [List.getElem?_eq_getElem (by omega)] at h1
      obtain ⟨cs', h2, h3⟩ := Option.bind_eq_some_iff.1 h1
      obtain ⟨_, h4, h5⟩ := World.cells?_some h2
      obtain ⟨_, q, h6⟩ := h _ enc w sp held n cs' _ h3
      refine ⟨q, fun j hj => ?_⟩
      obtain ⟨v, h7, h8⟩ := h6 j hj
      refine ⟨v, ?_, h8⟩
      have := h5 j hj
      rw [h7] at this
      rw [← this]
      congr 1
      unfold Addr.add
      by_cases hj0 : j = 0
      · subst hj0
        simp
      · by_cases hi0 : i * s = 0
        · simp [hi0, hj0]
        · have : ¬ (i * s + j = 0) := by omega
          simp only [hj0, hi0, this, if_false]
          congr 1
          omega
    refine ⟨rfl, (List.range len).map fun i => if hi : i < len then Classical.choose (each i hi) else default, fun j hj => ?_⟩
    obtain rfl : j = 0 := by omega
    refine ⟨_, rfl, some a, cap, by simp, by simpa using hl, hm, (fun hh => by cases hh), fun hn => ?_⟩
    have hn : 0 < len := by simpa using hn
    have hspot : a.spot = none := by
      obtain ⟨q, hq⟩ := each 0 hn
      obtain ⟨v, hv, _⟩ := hq 0 hs
      have : a.add (0 * s + 0) = a := by simp [Addr.add]
      rw [this] at hv
      unfold World.cell? at hv
      split at hv
      · split at hv
        · cases hv
        · rename_i hsp
          simpa using hsp
      · cases hv
    refine ⟨a.block, a.off, ?_, fun i j hi hj => ?_⟩
    · obtain ⟨b, o, spo⟩ := a
      simp only at hspot
      subst hspot
      rfl
    · have hi : i < len := by simpa using hi
      have hch := Classical.choose_spec (each i hi)
      obtain ⟨v, hv, hr⟩ := hch j hj
      refine ⟨v, ?_, ?_⟩
      · unfold World.cell? at hv
        have hblk : (a.add (i * s + j)).block = a.block := by unfold Addr.add; split <;> rfl
        have hoff : (a.add (i * s + j)).off = a.off + (i * s + j) := by
          unfold Addr.add
          split
          · rename_i h0; rw [h0]; rfl
          · rfl
        rw [hblk, hoff] at hv
        unfold cellIn nowImm
        split at hv
        · rename_i hb'
          rw [hb']
          split at hv
          · cases hv
          · exact hv
        · cases hv
      · have : lf c ((List.range len).map fun i => if hi : i < len then Classical.choose (each i hi) else default) i j = c (Classical.choose (each i hi)) j := by
          unfold lf
          simp [List.getD, hi]
        rw [this]
        exact hr
theorem rd_fields {H : Type} {enc : TypeId × Value → H} {w : World} {sp : Nat → Bool} {held : Bool} {fuel : Nat} {cs : List Value} {x : DataW H × List MemPlace} {fs : Array Field} (ht : P.underlying t = some (.struct fs)) (h : DataW.trod enc P w 0 sp held fuel t cs = some x) :
    cs.length = P.cellsOf t ∧ ∃ n, ∀ (i : Nat) (f : Field), fs[i]? = some f → ∃ y, DataW.trod enc P w 0 sp held n f.type ((cs.drop f.offset).take (P.cellsOf f.type)) = some y := by
  obtain ⟨xs, n, _, _, h1, h2, h3⟩ := DataW.trod_struct ht h
  refine ⟨h1, n, fun i f hf => ?_⟩
  have := h3 i f hf
  rw [this]
  have hi : i < xs.length := by rw [h2]; exact (Array.getElem?_eq_some_iff.1 hf).1
  exact ⟨_, List.getElem?_eq_getElem hi⟩
theorem rd_field {H : Type} {enc : TypeId × Value → H} {w : World} {sp : Nat → Bool} {held : Bool} {n off s : Nat} {ft : TypeId} {cs : List Value} {y : DataW H × List MemPlace} {α : Type} {c : α → Nat → PV} (h : Rd P ft s c) (hy : DataW.trod enc P w 0 sp held n ft ((cs.drop off).take (P.cellsOf ft)) = some y) :
    ∃ a : α, ∀ j, j < s → ∃ v, cs[off + j]? = some v ∧ RepP (nowImm w) (c a j) v := by
  obtain ⟨h1, a, h2⟩ := h _ enc w sp held n _ y hy
  refine ⟨a, fun j hj => ?_⟩
  obtain ⟨v, h3, h4⟩ := h2 j hj
  refine ⟨v, ?_, h4⟩
  rw [List.getElem?_take] at h3
  split at h3
  · rwa [List.getElem?_drop] at h3
  · cases h3
end
theorem kept_of_below {W W' : World} (hb : Below W.heap.size W W') (may : MemPlace → Prop) : W.keptBut W' may := by
  refine ⟨hb.os, hb.output, fun i hi => ?_⟩
  rw [hb.block i hi]
  cases W.heap[i]? with
  | none => exact rfl
  | some o => cases o <;> first | exact ⟨rfl, rfl, rfl, fun _ _ => rfl⟩ | exact .inr ⟨rfl, rfl⟩ | exact rfl
theorem same_of_below {W W' : World} (hb : Below W.heap.size W W') (p : MemPlace) (hp : p.block < W.heap.size) : W.sameAt W' p := by
  cases p with
  | cell b off => show W'.cell? _ = W.cell? _; unfold World.cell?; rw [hb.block b hp]
  | map b => exact hb.block b hp
section
variable {H : Type} {enc : TypeId × Value → H} {P : Program}
theorem trodAll_stays (hl : laidOutB P = true) {W W' : World} {sp' : Nat → Bool} : ∀ {ts : List TypeId} {vs : List Value} {ds : List (DataW H)} {ps : List MemPlace}, (∀ t ∈ ts, P.readableRec t = true ∧ t < P.types.size) → DataW.TrodAll enc P W 0 (fun _ => true) true ts vs ds ps →
    (∀ p ∈ ps, W.sameAt W' p) → (∀ p ∈ ps, sp' p.block = true) → DataW.TrodAll enc P W' 0 sp' true ts vs ds ps
  | [], [], [], ps, _, h, _, _ => h
  | t :: ts, v :: vs, d :: ds, ps, ht, ⟨p, q, h1, h2, e⟩, hs, hsp => by
    subst e
    refine ⟨p, q, WideElems.Trod_stays hl (ht t (by simp)).1 (ht t (by simp)).2 h1 (fun z hz => hs z (by simp [hz])) (fun z hz => hsp z (by simp [hz])), ?_, rfl⟩
    exact trodAll_stays hl (fun t ht' => ht t (by simp [ht'])) h2 (fun z hz => hs z (by simp [hz])) (fun z hz => hsp z (by simp [hz]))
  | [], _ :: _, _, _, _, h, _, _ => h.elim
  | [], [], _ :: _, _, _, h, _, _ => h.elim
  | _ :: _, [], _, _, _, h, _, _ => h.elim
  | _ :: _, _ :: _, [], _, _, h, _, _ => h.elim
theorem law_post {f : Func} {s : ChangeSpec} {W W' : World} {args : Array Value} {ds : List (DataW H)} {before : List MemPlace} {tb : TypeId} (hl : laidOutB P = true) (hpar : ∀ t ∈ f.params.toList, P.readableRec t = true ∧ t < P.types.size)
    (hres : f.resultTypes = #[tb]) (htb : P.underlying tb = some .bool) (hv : s.vars = []) (hfn : s.fn H ds = { results := [.lit (.bool true)], args := ds })
    (hW : DataW.Whole enc P f.params.toList s.vars false W args.toList ds [] before) (hb : Below W.heap.size W W') : s.post enc P f false true false false W args (.bool true) W' := by
  have hW' := hW
  have hlt : ∀ p ∈ before, p.block < W.heap.size := fun p hp => hW.lt p hp
  obtain ⟨p, q, hA, hV, rfl, hfz, hnd⟩ := hW
  rw [hv] at hV
  obtain ⟨_, rfl⟩ := trodVars_none hV
  have hfn' : s.fn H (ds ++ []) = { results := [.lit (.bool true)], args := ds } := by rw [List.append_nil]; exact hfn
  have hargs : ∀ sp : Nat → Bool, (∀ z ∈ p ++ [], sp z.block = true) → DataW.TrodAll enc P W' 0 sp true f.params.toList args.toList (s.fn H (ds ++ [])).args p := fun sp hsp => by
    rw [hfn']
    exact trodAll_stays hl hpar hA (fun z hz => same_of_below hb z (hlt z (by simpa using hz))) (fun z hz => hsp z (by simpa using hz))
  have hrs : ∀ (b : Nat) (sp : Nat → Bool) (hd : Bool), DataW.TrodAll enc P W' b sp hd f.resultTypes.toList ((Value.bool true).resultList f.resultTypes.size) (s.fn H (ds ++ [])).results [] := fun b sp hd => by
    rw [hfn', hres]
    exact trodAll_cons_mk (shut_bool htb _) trodAll_mk0
  have hok : ∀ (j : Nat) (t : TypeId) (r : Value), f.resultTypes[j]? = some t → ((Value.bool true).resultList f.resultTypes.size)[j]? = some r → Value.okWide P W' .any 0 t r := ok_one hres rfl (okWide_bool_mk htb _)
  have hvars : ∀ sp : Nat → Bool, (∀ z ∈ p ++ [], sp z.block = true) → DataW.TrodVars enc P W' sp s.vars (s.fn H (ds ++ [])).vars [] := fun sp _ => by
    rw [hfn', hv]; exact rfl
  have hold : ∀ z ∈ p ++ [], (fun b => decide (b < W.heap.size)) z.block = true := fun z hz => by simpa using hlt z hz
  refine ⟨ds, [], p ++ [], [], p, [], hW', hrs _ _ _, hargs _ hold, hvars _ hold, World.keptBut_mono (fun z hz => ⟨hz, ?_⟩) (kept_of_below hb (· ∈ p ++ [])), fun _ => ?_⟩
  · exact Or.inr (by simpa using hz)
  · refine ⟨hok, _, _, ([] ++ p) ++ [], ⟨[] ++ p, [], trodAll_append (hargs _ (fun _ _ => rfl)) (hrs _ _ _), hvars _ (fun _ _ => rfl), rfl, ?_, ?_⟩, ?_⟩
    · intro b off hp
      have hp' : MemPlace.cell b off ∈ p ++ [] := by simpa using hp
      have := hfz b off hp'
      unfold World.frozen? at this ⊢
      rw [hb.block b (hlt _ hp')]
      exact this
    · intro ha; cases ha
    · intro z hz _
      simpa using hz
end
theorem okWide_slice {P : Program} {W : World} {r : Reach} {b : Nat} {t e : TypeId} {v : Value} (ht : P.underlying t = some (.slice e)) (h : Value.okWide P W r b t v) : v.cells.toList = [v] := by
  unfold Value.okWide at h
  rw [ht] at h
  unfold Cell.okWide at h
  rw [ht] at h
  cases v <;> first | rfl | (simp [Cell.ok, ht] at h)
theorem okWide_int {P : Program} {W : World} {r : Reach} {b : Nat} {t : TypeId} {k : IntKind} {v : Value} (ht : P.underlying t = some (.int k)) (h : Value.okWide P W r b t v) : v.cells.toList = [v] := by
  unfold Value.okWide at h
  rw [ht] at h
  unfold Cell.okWide at h
  rw [ht] at h
  cases v <;> first | rfl | (simp [Cell.ok, ht] at h)
theorem rd_arg {H : Type} {enc : TypeId × Value → H} {P : Program} {W : World} {t : TypeId} {v : Value} {d : DataW H} {ps : List MemPlace} {α : Type} {c : α → Nat → PV} (h : Rd P t 1 c) (hc : v.cells.toList = [v]) (hd : DataW.Trod enc P W 0 (fun _ => true) true t v d ps) : ∃ a : α, RepP (nowImm W) (c a 0) v := by
  obtain ⟨fuel, hf⟩ := hd
  obtain ⟨_, a, ha⟩ := h _ enc W _ _ fuel _ _ hf
  obtain ⟨u, hu, hr⟩ := ha 0 (by omega)
  rw [hc] at hu
  simp only [List.getElem?_cons_zero, Option.some.injEq] at hu
  subst hu
  exact ⟨a, hr⟩
theorem law_calls {P : Program} {f : FuncId} {args : List PC} {us : List Value} {W : World} {R : Ending → World → Prop} (h : HPure P f args (prOf [.one (.raw (.bool true))])) (hr : RepPCL (nowImm W) args us) (hR : ∀ W', Below W.heap.size W W' → R (.returned (.bool true)) W') : Calls P f us.toArray W R := by
  refine (h W (nowImm W) us (fun _ _ hh => hh) hr).mono ?_
  rintro e w' ⟨v, imm', rfl, hv, _, _, hb⟩
  obtain ⟨rfl, _⟩ := hv
  exact hR w' hb
end Go.Hx
end
section
namespace Go.Hx
open Go.Proofs
theorem one0 {j : Nat} (h : j < 1) : j = 0 := by omega
theorem rd5 : Rd Tryz.prog 5 1 u8C := (rd_u8 Tryz.underlying5).co id fun a j hj => by obtain rfl := one0 hj; exact CoP.refl _
theorem rd32 : Rd Tryz.prog 32 1 u8sC := (rd_slice Tryz.underlying32 (by kernel_rfl) (by omega) rd5).co id fun a j hj => by obtain rfl := one0 hj; exact CoP.refl _
theorem rd29 : Rd Tryz.prog 29 1 (pslC 1 u8sC) := rd_slice Tryz.underlying29 (by kernel_rfl) (by omega) rd32
theorem rd31 : Rd Tryz.prog 31 3 Rcp.c := by
  intro H enc w sp held fuel cs x h
  obtain ⟨hl, n, hf⟩ := rd_fields Tryz.underlying31 h
  obtain ⟨y0, e0⟩ := hf 0 _ rfl
  obtain ⟨y1, e1⟩ := hf 1 _ rfl
  obtain ⟨y2, e2⟩ := hf 2 _ rfl
  obtain ⟨a0, h0⟩ := rd_field rd5 e0
  obtain ⟨a1, h1⟩ := rd_field rd5 e1
  obtain ⟨a2, h2⟩ := rd_field rd29 e2
  refine ⟨hl.trans (by kernel_rfl), (⟨a0, a1, a2⟩ : Rcp), fun j hj => ?_⟩
  match j, hj with
  | 0, _ => exact h0 0 (by omega)
  | 1, _ => exact h1 0 (by omega)
  | 2, _ => exact h2 0 (by omega)
theorem rd34 : Rd Tryz.prog 34 9 Opn.c := by
  intro H enc w sp held fuel cs x h
  obtain ⟨hl, n, hf⟩ := rd_fields Tryz.underlying34 h
  obtain ⟨y0, e0⟩ := hf 0 _ rfl
  obtain ⟨y1, e1⟩ := hf 1 _ rfl
  obtain ⟨y2, e2⟩ := hf 2 _ rfl
  obtain ⟨y3, e3⟩ := hf 3 _ rfl
  obtain ⟨y4, e4⟩ := hf 4 _ rfl
  obtain ⟨y5, e5⟩ := hf 5 _ rfl
  obtain ⟨y6, e6⟩ := hf 6 _ rfl
  obtain ⟨a0, h0⟩ := rd_field rd5 e0
  obtain ⟨a1, h1⟩ := rd_field rd5 e1
  obtain ⟨a2, h2⟩ := rd_field rd31 e2
  obtain ⟨a3, h3⟩ := rd_field (rd_int Tryz.underlying2) e3
  obtain ⟨a4, h4⟩ := rd_field rd32 e4
  obtain ⟨a5, h5⟩ := rd_field (rd_int Tryz.underlying3) e5
  obtain ⟨a6, h6⟩ := rd_field rd5 e6
  refine ⟨hl.trans (by kernel_rfl), (⟨a0, a1, a2, a3, a4, a5, a6⟩ : Opn), fun j hj => ?_⟩
  match j, hj with
  | 0, _ => exact h0 0 (by omega)
  | 1, _ => exact h1 0 (by omega)
  | 2, _ => exact h2 0 (by omega)
  | 3, _ => exact h2 1 (by omega)
  | 4, _ => exact h2 2 (by omega)
  | 5, _ => exact h3 0 (by omega)
  | 6, _ => exact h4 0 (by omega)
  | 7, _ => exact h5 0 (by omega)
  | 8, _ => exact h6 0 (by omega)
theorem rd22 : Rd Tryz.prog 22 1 (pslC 9 Opn.c) := rd_slice Tryz.underlying22 (by kernel_rfl) (by omega) rd34
theorem laidOut : laidOutB Tryz.prog = true := by kernel_rfl
theorem par22 : Tryz.prog.readableRec 22 = true ∧ 22 < Tryz.prog.types.size := ⟨by kernel_rfl, of_decide_eq_true (by kernel_rfl)⟩
end Go.Hx
end
section
namespace Go.Hx
open Go.Proofs Go.Proofs.YtdcdbghdgjlhhaaGreat
open Go.RowKit Go.ChangeShapes Go.WideShapes Go.ChangeAt
section
variable {H : Type}
theorem blk_all {d : DataW H} {l : List (DataW H)} (h : d ∈ l) : Rows.uptoBulk d ≤ Rows.uptoBulkAll l := by
  induction l with
  | nil => cases h
  | cons x r ih =>
    rw [Rows.uptoBulkAll]
    rcases List.mem_cons.1 h with e | e
    · subst e; omega
    · have := ih e; omega
theorem blk_one (d : DataW H) : 1 ≤ Rows.uptoBulk d := by
  cases d with
  | lit l => cases l <;> simp [Rows.uptoBulk]
  | _ => simp [Rows.uptoBulk]
theorem blk_many (l : List (DataW H)) : l.length ≤ Rows.uptoBulkAll l := by
  induction l with
  | nil => simp
  | cons x r ih => have := blk_one x; rw [Rows.uptoBulkAll, List.length_cons]; omega
theorem blk_part {l r : List (DataW H)} {d : DataW H} (h : d ∈ l) : Rows.uptoBulk d ≤ Rows.uptoBulk (.slice l r) := by
  have := blk_all h
  rw [Rows.uptoBulk]; omega
theorem blk_agg {l : List (DataW H)} {d : DataW H} (h : d ∈ l) : Rows.uptoBulk d ≤ Rows.uptoBulk (.agg l) := by
  have := blk_all h
  rw [Rows.uptoBulk]; omega
theorem blk_len (l r : List (DataW H)) : l.length ≤ Rows.uptoBulk (.slice l r) := by
  have := blk_many l
  rw [Rows.uptoBulk]; omega
end
def RdB (P : Program) (t : TypeId) (n : Nat) {α : Type} (c : α → Nat → PV) (B : Nat → α → Prop) : Prop :=
  ∀ (H : Type) (enc : TypeId × Value → H) (w : World) (sp : Nat → Bool) (held : Bool) (fuel : Nat) (cs : List Value) (x : DataW H × List MemPlace), DataW.trod enc P w 0 sp held fuel t cs = some x →
    cs.length = n ∧ ∃ a : α, B (Rows.uptoBulk x.1) a ∧ ∀ j, j < n → ∃ v, cs[j]? = some v ∧ RepP (nowImm w) (c a j) v
section
variable {P : Program} {t e : TypeId}
theorem Rd.toB {n : Nat} {α : Type} {c : α → Nat → PV} (h : Rd P t n c) : RdB P t n c fun _ _ => True := by
  intro H enc w sp held fuel cs x hx
  obtain ⟨h1, a, h2⟩ := h _ enc w sp held fuel cs x hx
  exact ⟨h1, a, trivial, h2⟩
theorem RdB.co {n : Nat} {α β : Type} {c : α → Nat → PV} {c' : β → Nat → PV} {B : Nat → α → Prop} {B' : Nat → β → Prop} (h : RdB P t n c B) (f : α → β) (hB : ∀ b a, B b a → B' b (f a)) (hc : ∀ a j, j < n → CoP (c a j) (c' (f a) j)) : RdB P t n c' B' := by
  intro H enc w sp held fuel cs x hx
  obtain ⟨h1, a, h0, h2⟩ := h _ enc w sp held fuel cs x hx
  refine ⟨h1, f a, hB _ _ h0, fun j hj => ?_⟩
  obtain ⟨v, h3, h4⟩ := h2 j hj
  exact ⟨v, h3, hc a j hj _ _ h4⟩
theorem rdB_string (ht : P.underlying t = some .string) : RdB P t 1 byteC fun b s => s.size ≤ b := by
  intro H enc w sp held fuel cs x h
  obtain ⟨n, rfl, rfl, _⟩ := DataW.trod_string ht h
  refine ⟨rfl, n, ?_, fun j hj => ?_⟩
  · show n.size ≤ Rows.uptoBulk (DataW.lit (.string n.data.toList))
    rw [Rows.uptoBulk]
    show n.data.size ≤ _
    rw [Array.length_toList]; omega
  · obtain rfl : j = 0 := by omega
    exact ⟨_, rfl, rfl, rfl⟩
theorem rdB_slice {s : Nat} {α : Type} [Inhabited α] {c : α → Nat → PV} {B : Nat → α → Prop} (mono : ∀ b b' x, b ≤ b' → B b x → B b' x) (ht : P.underlying t = some (.slice e)) (hc : P.cellsOf e = s) (hs : 0 < s) (h : RdB P e s c B) : RdB P t 1 (pslC s c) (fun b l => l.length ≤ b ∧ ∀ i, i < l.length → B b (l.getD i default)) := by
  classical
  intro H enc w sp held fuel cs x hx
  rcases DataW.trod_slice ht hx with ⟨rfl, _⟩ | ⟨a, len, cap, elems, rest, n, rfl, rfl, rfl, hb, hl, hm, hlen, hel, _, _⟩
  · refine ⟨rfl, [], ⟨Nat.zero_le _, fun i hi => absurd hi (Nat.not_lt_zero i)⟩, fun j hj => ?_⟩
    obtain rfl : j = 0 := by omega
    exact ⟨_, rfl, none, 0, rfl, Nat.le_refl _, Nat.zero_le _, (fun hh => by cases hh), fun hh => absurd hh (Nat.lt_irrefl 0)⟩
  · have each : ∀ i, i < len → ∃ q : α, B (Rows.uptoBulk (DataW.slice (elems.map (·.1)) (rest.map (·.1)))) q ∧ ∀ j, j < s → ∃ v, w.cell? (a.add (i * s + j)) = some v ∧ RepP (nowImm w) (c q j) v := by
      intro i hi
      have h1 := hel i hi
      rw [hc] at h1
      rw [List.getElem?_eq_getElem (by omega)] at h1
      obtain ⟨cs', h2, h3⟩ := Option.bind_eq_some_iff.1 h1
      obtain ⟨_, h4, h5⟩ := World.cells?_some h2
      obtain ⟨_, q, h9, h6⟩ := h _ enc w sp held n cs' _ h3
      refine ⟨q, mono _ _ q (blk_part (List.mem_map_of_mem (List.getElem_mem _))) h9, fun j hj => ?_⟩
      obtain ⟨v, h7, h8⟩ := h6 j hj
      refine ⟨v, ?_, h8⟩
      have := h5 j hj
      rw [h7] at this
      rw [← this]
      congr 1
      unfold Addr.add
      by_cases hj0 : j = 0
      · subst hj0
        simp
      · by_cases hi0 : i * s = 0
        · simp [hi0, hj0]
        · have : ¬ (i * s + j = 0) := by omega
          simp only [hj0, hi0, this, if_false]
          congr 1
          omega
    refine ⟨rfl, (List.range len).map fun i => if hi : i < len then Classical.choose (each i hi) else default, ⟨?_, fun i hi => ?_⟩, fun j hj => ?_⟩
    · rw [List.length_map, List.length_range, ← hlen]
      have := blk_len (elems.map (·.1)) (rest.map (·.1))
      rw [List.length_map] at this
      exact this
    · have hi : i < len := by simpa using hi
      have hch := (Classical.choose_spec (each i hi)).1
      have e : ((List.range len).map fun i => if hi : i < len then Classical.choose (each i hi) else default).getD i default = Classical.choose (each i hi) := by simp [List.getD, hi]
      rw [e]
      exact hch
    obtain rfl : j = 0 := by omega
    refine ⟨_, rfl, some a, cap, by simp, by simpa using hl, hm, (fun hh => by cases hh), fun hn => ?_⟩
    have hn : 0 < len := by simpa using hn
    have hspot : a.spot = none := by
      obtain ⟨q, _, hq⟩ := each 0 hn
      obtain ⟨v, hv, _⟩ := hq 0 hs
      have : a.add (0 * s + 0) = a := by simp [Addr.add]
      rw [this] at hv
      unfold World.cell? at hv
      split at hv
      · split at hv
        · cases hv
        · rename_i hsp
          simpa using hsp
      · cases hv
    refine ⟨a.block, a.off, ?_, fun i j hi hj => ?_⟩
    · obtain ⟨b, o, spo⟩ := a
      simp only at hspot
      subst hspot
      rfl
    · have hi : i < len := by simpa using hi
      have hch := (Classical.choose_spec (each i hi)).2
      obtain ⟨v, hv, hr⟩ := hch j hj
      refine ⟨v, ?_, ?_⟩
      · unfold World.cell? at hv
        have hblk : (a.add (i * s + j)).block = a.block := by unfold Addr.add; split <;> rfl
        have hoff : (a.add (i * s + j)).off = a.off + (i * s + j) := by
          unfold Addr.add
          split
          · rename_i h0; rw [h0]; rfl
          · rfl
        rw [hblk, hoff] at hv
        unfold cellIn nowImm
        split at hv
        · rename_i hb'
          rw [hb']
          split at hv
          · cases hv
          · exact hv
        · cases hv
      · have : lf c ((List.range len).map fun i => if hi : i < len then Classical.choose (each i hi) else default) i j = c (Classical.choose (each i hi)) j := by
          unfold lf
          simp [List.getD, hi]
        rw [this]
        exact hr
theorem rdB_fields {H : Type} {enc : TypeId × Value → H} {w : World} {sp : Nat → Bool} {held : Bool} {fuel : Nat} {cs : List Value} {x : DataW H × List MemPlace} {fs : Array Field} (ht : P.underlying t = some (.struct fs)) (h : DataW.trod enc P w 0 sp held fuel t cs = some x) :
    cs.length = P.cellsOf t ∧ ∃ n, ∀ (i : Nat) (f : Field), fs[i]? = some f → ∃ y, DataW.trod enc P w 0 sp held n f.type ((cs.drop f.offset).take (P.cellsOf f.type)) = some y ∧ Rows.uptoBulk y.1 ≤ Rows.uptoBulk x.1 := by
  obtain ⟨xs, n, _, rfl, h1, h2, h3⟩ := DataW.trod_struct ht h
  refine ⟨h1, n, fun i f hf => ?_⟩
  have := h3 i f hf
  rw [this]
  have hi : i < xs.length := by rw [h2]; exact (Array.getElem?_eq_some_iff.1 hf).1
  exact ⟨_, List.getElem?_eq_getElem hi, blk_agg (List.mem_map_of_mem (List.getElem_mem hi))⟩
theorem rdB_field {H : Type} {enc : TypeId × Value → H} {w : World} {sp : Nat → Bool} {held : Bool} {n off s b : Nat} {ft : TypeId} {cs : List Value} {y : DataW H × List MemPlace} {α : Type} {c : α → Nat → PV} {B : Nat → α → Prop} (mono : ∀ b b' x, b ≤ b' → B b x → B b' x) (h : RdB P ft s c B)
    (hy : DataW.trod enc P w 0 sp held n ft ((cs.drop off).take (P.cellsOf ft)) = some y ∧ Rows.uptoBulk y.1 ≤ b) :
    ∃ a : α, B b a ∧ ∀ j, j < s → ∃ v, cs[off + j]? = some v ∧ RepP (nowImm w) (c a j) v := by
  obtain ⟨h1, a, h0, h2⟩ := h _ enc w sp held n _ y hy.1
  refine ⟨a, mono _ _ a hy.2 h0, fun j hj => ?_⟩
  obtain ⟨v, h3, h4⟩ := h2 j hj
  refine ⟨v, ?_, h4⟩
  rw [List.getElem?_take] at h3
  split at h3
  · rwa [List.getElem?_drop] at h3
  · cases h3
theorem rdB_arg {H : Type} {enc : TypeId × Value → H} {W : World} {v : Value} {d : DataW H} {ps : List MemPlace} {α : Type} {c : α → Nat → PV} {B : Nat → α → Prop} (h : RdB P t 1 c B) (hc : v.cells.toList = [v]) (hd : DataW.Trod enc P W 0 (fun _ => true) true t v d ps) : ∃ a : α, B (Rows.uptoBulk d) a ∧ RepP (nowImm W) (c a 0) v := by
  obtain ⟨fuel, hf⟩ := hd
  obtain ⟨_, a, h0, ha⟩ := h _ enc W _ _ fuel _ _ hf
  obtain ⟨u, hu, hr⟩ := ha 0 (by omega)
  rw [hc] at hu
  simp only [List.getElem?_cons_zero, Option.some.injEq] at hu
  subst hu
  exact ⟨a, h0, hr⟩
end
def BVal (b : Nat) (v : Val) : Prop := v.str.size ≤ b
def BRow (b : Nat) (r : Row) : Prop := r.vals.length ≤ b ∧ ∀ i, i < r.vals.length → BVal b (r.vals.getD i default)
def BTbl (b : Nat) (t : Tbl) : Prop := t.name.size ≤ b ∧ t.attrs.length ≤ b ∧ t.rows.length ≤ b ∧ ∀ i, i < t.rows.length → BRow b (t.rows.getD i default)
def BChg (b : Nat) (c : Chg) : Prop := c.name.size ≤ b ∧ BTbl b c.table ∧ BRow b c.row ∧ BVal b c.value
theorem BVal.mono (b b' : Nat) (x : Val) (h : b ≤ b') (hx : BVal b x) : BVal b' x := Nat.le_trans hx h
theorem BRow.mono (b b' : Nat) (x : Row) (h : b ≤ b') (hx : BRow b x) : BRow b' x := ⟨Nat.le_trans hx.1 h, fun i hi => BVal.mono _ _ _ h (hx.2 i hi)⟩
theorem BTbl.mono (b b' : Nat) (x : Tbl) (h : b ≤ b') (hx : BTbl b x) : BTbl b' x := ⟨Nat.le_trans hx.1 h, Nat.le_trans hx.2.1 h, Nat.le_trans hx.2.2.1 h, fun i hi => BRow.mono _ _ _ h (hx.2.2.2 i hi)⟩
theorem BChg.mono (b b' : Nat) (x : Chg) (h : b ≤ b') (hx : BChg b x) : BChg b' x := ⟨Nat.le_trans hx.1 h, BTbl.mono _ _ _ h hx.2.1, BRow.mono _ _ _ h hx.2.2.1, BVal.mono _ _ _ h hx.2.2.2⟩
theorem sz_mono (b b' : Nat) (x : ByteArray) (h : b ≤ b') (hx : x.size ≤ b) : x.size ≤ b' := Nat.le_trans hx h
theorem tt_mono {α : Type} (b b' : Nat) (x : α) (h : b ≤ b') (hx : True) : True := trivial
theorem rb9 : RdB Tryz.prog 9 1 byteC fun b s => s.size ≤ b := rdB_string Tryz.underlying9
theorem rb47 : RdB Tryz.prog 47 3 Val.c BVal := by
  intro H enc w sp held fuel cs x h
  obtain ⟨hl, n, hf⟩ := rdB_fields Tryz.underlying47 h
  obtain ⟨y0, e0⟩ := hf 0 _ rfl
  obtain ⟨y1, e1⟩ := hf 1 _ rfl
  obtain ⟨y2, e2⟩ := hf 2 _ rfl
  obtain ⟨a0, _, h0⟩ := rdB_field tt_mono (rd_int Tryz.underlying3).toB e0
  obtain ⟨a1, _, h1⟩ := rdB_field tt_mono (rd_int Tryz.underlying2).toB e1
  obtain ⟨a2, b2, h2⟩ := rdB_field sz_mono rb9 e2
  refine ⟨hl.trans (by kernel_rfl), (⟨a0, a1, a2⟩ : Val), b2, fun j hj => ?_⟩
  match j, hj with
  | 0, _ => exact h0 0 (by omega)
  | 1, _ => exact h1 0 (by omega)
  | 2, _ => exact h2 0 (by omega)
theorem rb43 : RdB Tryz.prog 43 1 (pslC 3 Val.c) fun b l => l.length ≤ b ∧ ∀ i, i < l.length → BVal b (l.getD i default) := rdB_slice BVal.mono Tryz.underlying43 (by kernel_rfl) (by omega) rb47
theorem rb45 : RdB Tryz.prog 45 2 Row.c BRow := by
  intro H enc w sp held fuel cs x h
  obtain ⟨hl, n, hf⟩ := rdB_fields Tryz.underlying45 h
  obtain ⟨y0, e0⟩ := hf 0 _ rfl
  obtain ⟨y1, e1⟩ := hf 1 _ rfl
  obtain ⟨a0, _, h0⟩ := rdB_field tt_mono (rd_int Tryz.underlying2).toB e0
  obtain ⟨a1, b1, h1⟩ := rdB_field (fun b b' x h hx => ⟨Nat.le_trans hx.1 h, fun i hi => BVal.mono _ _ _ h (hx.2 i hi)⟩) rb43 e1
  refine ⟨hl.trans (by kernel_rfl), (⟨a0, a1⟩ : Row), b1, fun j hj => ?_⟩
  match j, hj with
  | 0, _ => exact h0 0 (by omega)
  | 1, _ => exact h1 0 (by omega)
theorem rb39 : RdB Tryz.prog 39 1 (pslC 1 strC) fun b l => l.length ≤ b := (rdB_slice sz_mono Tryz.underlying39 (by kernel_rfl) (by omega) rb9).co id (fun b a h => h.1) fun a j hj => by
  obtain rfl := one0 hj
  exact CoP.sl rfl (.inl rfl) (fun h => h) fun i j hi hj => by obtain rfl := one0 hj; exact CoP.refl _
theorem rb40 : RdB Tryz.prog 40 1 (pslC 2 Row.c) fun b l => l.length ≤ b ∧ ∀ i, i < l.length → BRow b (l.getD i default) := rdB_slice BRow.mono Tryz.underlying40 (by kernel_rfl) (by omega) rb45
theorem rb42 : RdB Tryz.prog 42 3 Tbl.c BTbl := by
  intro H enc w sp held fuel cs x h
  obtain ⟨hl, n, hf⟩ := rdB_fields Tryz.underlying42 h
  obtain ⟨y0, e0⟩ := hf 0 _ rfl
  obtain ⟨y1, e1⟩ := hf 1 _ rfl
  obtain ⟨y2, e2⟩ := hf 2 _ rfl
  obtain ⟨a0, b0, h0⟩ := rdB_field sz_mono rb9 e0
  obtain ⟨a1, b1, h1⟩ := rdB_field (B := fun b (l : List ByteArray) => l.length ≤ b) (fun b b' x h hx => Nat.le_trans hx h) rb39 e1
  obtain ⟨a2, b2, h2⟩ := rdB_field (fun b b' x h hx => ⟨Nat.le_trans hx.1 h, fun i hi => BRow.mono _ _ _ h (hx.2 i hi)⟩) rb40 e2
  refine ⟨hl.trans (by kernel_rfl), (⟨a0, a1, a2⟩ : Tbl), ⟨b0, b1, b2.1, b2.2⟩, fun j hj => ?_⟩
  match j, hj with
  | 0, _ => exact h0 0 (by omega)
  | 1, _ => exact h1 0 (by omega)
  | 2, _ => exact h2 0 (by omega)
theorem rb49 : RdB Tryz.prog 49 11 Chg.c BChg := by
  intro H enc w sp held fuel cs x h
  obtain ⟨hl, n, hf⟩ := rdB_fields Tryz.underlying49 h
  obtain ⟨y0, e0⟩ := hf 0 _ rfl
  obtain ⟨y1, e1⟩ := hf 1 _ rfl
  obtain ⟨y2, e2⟩ := hf 2 _ rfl
  obtain ⟨y3, e3⟩ := hf 3 _ rfl
  obtain ⟨y4, e4⟩ := hf 4 _ rfl
  obtain ⟨y5, e5⟩ := hf 5 _ rfl
  obtain ⟨a0, _, h0⟩ := rdB_field tt_mono (rd_int Tryz.underlying3).toB e0
  obtain ⟨a1, b1, h1⟩ := rdB_field sz_mono rb9 e1
  obtain ⟨a2, b2, h2⟩ := rdB_field BTbl.mono rb42 e2
  obtain ⟨a3, b3, h3⟩ := rdB_field BRow.mono rb45 e3
  obtain ⟨a4, _, h4⟩ := rdB_field tt_mono (rd_int Tryz.underlying3).toB e4
  obtain ⟨a5, b5, h5⟩ := rdB_field BVal.mono rb47 e5
  refine ⟨hl.trans (by kernel_rfl), (⟨a0, a1, a2, a3, a4, a5⟩ : Chg), ⟨b1, b2, b3, b5⟩, fun j hj => ?_⟩
  match j, hj with
  | 0, _ => exact h0 0 (by omega)
  | 1, _ => exact h1 0 (by omega)
  | 2, _ => exact h2 0 (by omega)
  | 3, _ => exact h2 1 (by omega)
  | 4, _ => exact h2 2 (by omega)
  | 5, _ => exact h3 0 (by omega)
  | 6, _ => exact h3 1 (by omega)
  | 7, _ => exact h4 0 (by omega)
  | 8, _ => exact h5 0 (by omega)
  | 9, _ => exact h5 1 (by omega)
  | 10, _ => exact h5 2 (by omega)
theorem rb23 : RdB Tryz.prog 23 1 (pslC 11 Chg.c) fun b l => l.length ≤ b ∧ ∀ i, i < l.length → BChg b (l.getD i default) := rdB_slice BChg.mono Tryz.underlying23 (by kernel_rfl) (by omega) rb49
theorem par23 : Tryz.prog.readableRec 23 = true ∧ 23 < Tryz.prog.types.size := ⟨by kernel_rfl, of_decide_eq_true (by kernel_rfl)⟩
theorem par5 : Tryz.prog.readableRec 5 = true ∧ 5 < Tryz.prog.types.size := ⟨by kernel_rfl, of_decide_eq_true (by kernel_rfl)⟩
end Go.Hx
end
