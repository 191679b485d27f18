/- A part of the proof: Cs13 V11 Cs14 V12 Cs15 V13 Cs16. -/
import Derived.Test.YtidophngianjiaaGreatDoor6x20
set_option linter.all false
section
namespace Go.Hx
def b0e (l : List Fd) (i k : Nat) : List Fd := io (l.take i) ++ (dv ((l.getD i default).rhs &&& ~~~(l.getD i default).lhs) k).map fun a => (⟨(l.getD i default).lhs, (1 : AS) <<< a⟩ : Fd)
def aml (x : Fd) (a : Nat) : Fd := ⟨x.lhs &&& ~~~((1 : AS) <<< a), x.rhs⟩
def o3 (i : Nat) (l : List Fd) (a : Nat) : List Fd := if ct (l.getD i default).lhs a && exB l (l.getD i default) a then l.set i (aml (l.getD i default) a) else l
def lx (l : List Fd) (i k : Nat) : List Fd := ((av (l.getD i default).lhs).take k).foldl (o3 i) l
def a2l (l : List Fd) (i : Nat) : List Fd := (av (l.getD i default).lhs).foldl (o3 i) l
def it (l : List Fd) (i : Nat) : List Fd := (List.range i).foldl a2l l
theorem abb {i a : Nat} {l : List Fd} : (o3 i l a).length = l.length := by
 unfold o3
 split
 · rw [List.length_set]
 · rfl
theorem yl {i : Nat} : ∀ (m : List Nat) (l : List Fd), (m.foldl (o3 i) l).length = l.length
 | [], l => rfl
 | a :: m, l => by rw [List.foldl_cons, yl m, abb]
theorem aab {l : List Fd} {i k : Nat} : (lx l i k).length = l.length := yl _ _
theorem anr {l : List Fd} {i : Nat} : (a2l l i).length = l.length := yl _ _
theorem ku {l : List Fd} : ∀ {i : Nat}, (it l i).length = l.length
 | 0 => rfl
 | i + 1 => by
  unfold it
  rw [List.range_succ, List.foldl_append]
  show (a2l ((List.range i).foldl a2l l) i).length = _
  rw [anr]
  exact ku (i := i)
theorem al0 (l : List Fd) (i : Nat) : it l (i + 1) = a2l (it l i) i := by
 unfold it
 rw [List.range_succ, List.foldl_append]
 rfl
theorem ak0 (l : List Fd) (i : Nat) : lx l i 0 = l := by unfold lx; rw [List.take_zero]; rfl
theorem aoh {l : List Fd} {i k : Nat} (hk : k = (av (l.getD i default).lhs).length) : lx l i k = a2l l i := by
 unfold lx a2l
 rw [hk, List.take_length]
theorem uh {l : List Fd} {i k : Nat} (hk : k < (av (l.getD i default).lhs).length) : lx l i (k + 1) = o3 i (lx l i k) ((av (l.getD i default).lhs).getD k default) := by
 unfold lx
 rw [ci hk, List.foldl_append]
 rfl
theorem a88 {l : List Fd} {i : Nat} {x : Fd} (hi : i < l.length) : (l.set i x).getD i default = x := by simp [List.getD, hi]
theorem ao1 {i a b : Nat} {l : List Fd} (hi : i < l.length) (hb : b < 32) (hne : b ≠ a) : ((o3 i l a).getD i default).lhs.getLsbD b = (l.getD i default).lhs.getLsbD b := by
 unfold o3
 split
 · rw [a88 hi]
   show ((l.getD i default).lhs &&& ~~~((1 : AS) <<< a)).getLsbD b = _
   rw [BitVec.getLsbD_and, BitVec.getLsbD_not, vd _ _ hb]
   simp [hb, hne]
 · rfl
theorem a81 {i b : Nat} (hb : b < 32) : ∀ (m : List Nat) (l : List Fd), i < l.length → (∀ a ∈ m, b ≠ a) → ((m.foldl (o3 i) l).getD i default).lhs.getLsbD b = (l.getD i default).lhs.getLsbD b
 | [], l, _, _ => rfl
 | a :: m, l, hi, h => by
  rw [List.foldl_cons, a81 hb m _ (by rw [abb]; exact hi) fun c hc => h c (List.mem_cons_of_mem _ hc), ao1 hi hb (h a List.mem_cons_self)]
theorem afr (s : AS) : (av s).Pairwise (· < ·) := List.Pairwise.filter _ List.pairwise_lt_range
theorem abi {m : List Nat} {k : Nat} (hk : k < m.length) : m.getD k default = m[k] := by simp [List.getD, hk]
theorem aiy {m : List Nat} {k : Nat} (hk : k < m.length) : m.getD k default ∈ m := by rw [abi hk]; exact List.getElem_mem hk
theorem ao2 {l : List Fd} {i k : Nat} (hi : i < l.length) (hk : k < (av (l.getD i default).lhs).length) : ct ((lx l i k).getD i default).lhs (((av (l.getD i default).lhs).getD k default : Nat) : Int) = true := by
 have hm : (av (l.getD i default).lhs).getD k default ∈ av (l.getD i default).lhs := aiy hk
 obtain ⟨h1, h2⟩ := lc.1 hm
 rw [gl h1]
 unfold lx
 rw [a81 h1 _ _ hi, h2]
 intro a ha
 obtain ⟨j, hj, rfl⟩ := List.getElem_of_mem ha
 rw [List.length_take] at hj
 rw [List.getElem_take, abi hk]
 have := List.pairwise_iff_getElem.1 (afr (l.getD i default).lhs) j k (by omega) hk (by omega)
 exact Nat.ne_of_gt this
theorem akp {i a : Nat} {l : List Fd} (h : ct (l.getD i default).lhs a = true) (h2 : exB l (l.getD i default) a = true) : o3 i l a = l.set i (aml (l.getD i default) a) := by unfold o3; rw [h, h2]; rfl
theorem ahi {i a : Nat} {l : List Fd} (h2 : exB l (l.getD i default) a = false) : o3 i l a = l := by unfold o3; rw [h2]; simp
theorem aev {wr wr' : Bool} {n k i a : Nat} {e : TypeId} {l l' : List Fd} {v : Int} (hl : l' = l.set i (aml (l.getD i default) a)) (hv : v = asI ((l.getD i default).lhs &&& ~~~((1 : AS) <<< a))) (hk : k = i) (hi : i < l.length) (hn : n = l.length) (hw : wr' = true → wr = true := by exact fun h => h) :
 CoO (.arr wr 2 e n (ew (lf Fd.c l) k 0 [.raw (.int .u32 v)])) (.arr wr' 2 e n (lf Fd.c l')) := by
 subst hl hv hk hn
 refine ⟨hw, rfl, rfl, rfl, fun r j hr hj => CoP.of_eq ?_⟩
 unfold ew lf
 by_cases h : r = k
 · subst h
   rw [a88 hi]
   rcases (by omega : j = 0 ∨ j = 1) with rfl | rfl
   · rw [if_pos ⟨rfl, Nat.le_refl _, by simp⟩]
     rfl
   · rw [if_neg (by simp)]
     rfl
 · rw [if_neg (by omega), getD_set_ne' h]
theorem aei {n : Nat} {cl : Bool} {l : List Fd} (h : n = l.length) : CoP (.sl n 2 cl (lf Fd.c l)) (fdl l) := CoP.sl h.symm (.inl rfl) (fun h => by cases h) fun _ _ _ _ => CoP.refl _
def qx : Nat → List Fd → Nat → List Fd
 | 0, l, _ => l
 | f + 1, l, i => if i < l.length then (if a6n l i then qx f (j6 l i) i else qx f l (i + 1)) else l
theorem ae0 {l : List Fd} {i : Nat} (hi : i < l.length) (h : a6n l i = true) : qx (l.length - i) l i = qx ((j6 l i).length - i) (j6 l i) i := by
 rw [kd hi, show l.length - i = (l.length - 1 - i) + 1 by omega]
 show (if i < l.length then (if a6n l i then _ else _) else l) = _
 rw [if_pos hi, h]
 rfl
theorem ae1 {l : List Fd} {i : Nat} (hi : i < l.length) (h : a6n l i = false) : qx (l.length - i) l i = qx (l.length - (i + 1)) l (i + 1) := by
 rw [show l.length - i = (l.length - (i + 1)) + 1 by omega]
 show (if i < l.length then (if a6n l i then _ else _) else l) = _
 rw [if_pos hi, h]
 rfl
theorem aid {l : List Fd} {i : Nat} (hi : ¬ i < l.length) : qx (l.length - i) l i = l := by rw [show l.length - i = 0 by omega]; rfl
def spl (l : List Fd) : List Fd := fl (io l)
def zu (l : List Fd) : List Fd := fl (it (spl l) (spl l).length)
def agb (l : List Fd) : List Fd := qx (zu l).length (zu l) 0
theorem aes (l : List Fd) : (spl l).length ≤ 32 * l.length := Nat.le_trans (z7 _) (wq l)
theorem afc (l : List Fd) : (zu l).length ≤ 32 * l.length := Nat.le_trans (z7 _) (by rw [ku]; exact aes l)
def b0n (t : AS) (l : List Fd) : Prop := ∀ x ∈ l, sub x.lhs t
end Go.Hx
end
section
namespace Go.Hx
open Go.Proofs
set_option maxRecDepth 100000
theorem arj : goodFn Tryz.prog 203 := ⟨Tryz.f203, Tryz.func203, by kernel_rfl, by kernel_rfl⟩
theorem atv (l : List Fd) (hl : l.length ≤ 4096) : cz Tryz.prog 203 [.one (.p (fdl l))] [] (.v (.one (.ref 900 (spl l).length))) [(900, .arr true 2 40 (spl l).length (lf Fd.c (spl l)))] [] := by
 refine ek (nt := 37) af Tryz.func203 rfl rfl l9 rfl ?_; refine sx7 ?_; refine qy ?_; refine a6 ?_; refine sx7 ?_; refine qy ?_; refine a6 ?_; (iterate 2 refine a7 ?_)
 refine cj 0 rfl fun hn => ?_
 refine gy ?_; (iterate 3 refine qy ?_); refine a6 ?_; refine ae ?_
 refine dl 3 901 true 2 40 (lf Fd.c []) (by decide) rfl (CoP.sl rfl (.inr rfl) (fun h => h) (fun i j hi _ => absurd hi (Nat.not_lt_zero i))) (.inr rfl) rfl ?_
 refine aj (ι := Nat) ⟨[(8, some _), (9, some _)], []⟩ ⟨⟨c9, c9, trivial⟩, trivial⟩ (fun i => ⟨[(3, some (.v (.one (.ref 901 (io (l.take i)).length)))), (10, some (vI i))], [(901, some (.arr true 2 40 (io (l.take i)).length (lf Fd.c (io (l.take i)))))]⟩) (fun i => i ≤ l.length) (fun i => l.length - i) (0) (Nat.zero_le _) ⟨⟨zy, zy, trivial⟩, ⟨u9, trivial⟩⟩ ?_
 rintro i hi
 refine sx7 ?_; refine qy ?_; refine a6 ?_; refine a7 ?_; refine a8 _ rfl (fun r0 => ?_) (fun r0 => ?_)
 ·
  have h0 := of_decide_eq_true r0
  try simp only [ty] at h0
  refine aa ?_; refine a7 ?_; refine ae ?_; refine sx7 ?_; (iterate 2 refine qy ?_); refine m9 0 ?_; refine s9 ?_; refine a6 ?_; refine sx7 ?_; (iterate 5 refine qy ?_)
  refine rc rfl rfl rfl rfl rfl rfl a6r (aok ((l.getD i default).rhs &&& ~~~(l.getD i default).lhs)) (⟨cci (a3n _ _), trivial⟩) rfl rfl ?_; (iterate 2 refine qy ?_); refine a6 ?_; refine ae ?_
  refine aj (ι := Nat) ⟨[(5, some _), (8, some _), (9, some _), (10, some _), (19, some _), (20, some _)], [(0, some _)]⟩ ⟨⟨c9, c9, c9, c9, c9, c9, trivial⟩, ⟨u9, trivial⟩⟩ (fun k => ⟨[(3, some (.v (.one (.ref 901 (k6 l i k).length)))), (21, some (vI k))], [(901, some (.arr true 2 40 (k6 l i k).length (lf Fd.c (k6 l i k))))]⟩) (fun k => k ≤ (av ((l.getD i default).rhs &&& ~~~(l.getD i default).lhs)).length) (fun k => (av ((l.getD i default).rhs &&& ~~~(l.getD i default).lhs)).length - k) (0) (Nat.zero_le _) ⟨⟨⟨_, rfl, (go (a1z l i))⟩, zy, trivial⟩, ⟨⟨_, rfl, (fc (a1z l i))⟩, trivial⟩⟩ ?_
  rintro k hk
  have hml := x4 ((l.getD i default).rhs &&& ~~~(l.getD i default).lhs)
  have hsl := ago (l := l) (i := i) (k := k) (by omega)
  refine sx7 ?_; refine qy ?_; refine a6 ?_; refine a7 ?_; refine a8 _ rfl (fun r1 => ?_) (fun r1 => ?_)
  ·
   have h1 := of_decide_eq_true r1
   try simp only [ty] at h1
   refine aa ?_; refine a7 ?_; refine ae ?_; refine sx7 ?_; (iterate 3 refine qy ?_); refine a6 ?_; refine aw (E := b4) af aq [0, 1, 2, 3, 4, 5, 6, 7, 8] ?_; (iterate 4 refine qy ?_)
   refine rq rfl rfl rfl rfl rfl ?_ (hp := (Int.natCast_nonneg _)); refine qy ?_; refine m9 1 ?_; refine ra 2 true rfl rfl rfl rfl rfl rfl ?_; refine qy ?_; refine a6 ?_; refine ⟨by kernel_rfl, ?_⟩; refine gy ?_
   (iterate 2 refine qy ?_); refine a6 ?_; refine ⟨k + 1, ?_, ?_, ?_⟩
   · show k + 1 ≤ _; omega
   · first | omega | (dsimp only; omega)
   · exact ⟨⟨⟨_, rfl, (ej (a1y rfl (by omega)))⟩, zy, c9, c9, c9, c9, c9, c9, trivial⟩, ⟨⟨_, rfl, (td (a1y rfl (by omega)) (CoP.refl _) (CoP.of_eq (by exact congrArg (fun z => PV.raw (.int .u32 z)) (ar7 _))))⟩, u9, trivial⟩⟩
  ·
   have h1 := of_decide_eq_false r1
   try simp only [ty] at h1
   obtain rfl : k = (av ((l.getD i default).rhs &&& ~~~(l.getD i default).lhs)).length := by omega
   refine al ?_; refine gy ?_; (iterate 2 refine qy ?_); refine a6 ?_; refine ⟨i + 1, ?_, ?_, ?_⟩
   · show i + 1 ≤ _; omega
   · first | omega | (dsimp only; omega)
   · exact ⟨⟨⟨_, rfl, (go (a42 (by omega) rfl).symm)⟩, zy, c9, c9, trivial⟩, ⟨⟨_, rfl, (fc (a42 (by omega) rfl).symm)⟩, trivial⟩⟩
 ·
  have h0 := of_decide_eq_false r0
  try simp only [ty] at h0
  obtain rfl : i = l.length := by omega
  refine al ?_; refine a7 ?_; refine bs 3 rfl rfl rfl ?_; refine gy ?_; refine qy ?_
  refine bw rfl rfl rfl rfl rfl rfl aet (ajj (io l) (Nat.le_trans (wq l) (by omega))) (⟨CoP.of_eq (by rw [List.take_length]; rfl), trivial⟩) trivial rfl rfl ?_; refine qy ?_; refine a6 ?_
  refine am ?_; refine ⟨.inr rfl, ?_⟩
  exact ⟨_, _, rfl, (by (repeat' apply And.intro) <;> first | trivial | exact Nat.le_of_ble_eq_true rfl), CoR.refl _, ⟨u9, trivial⟩⟩
theorem au4 : goodFn Tryz.prog 165 := ⟨Tryz.f165, Tryz.func165, by kernel_rfl, by kernel_rfl⟩
theorem b01 (l : List Fd) (hl : l.length ≤ 4096) : ah Tryz.prog 165 [pP (fdl l)] (ap [pP (fdl (agb l))]) := by
 refine ag (nt := 60) af Tryz.func165 rfl rfl l9 ?_; refine sx7 ?_; refine qy ?_; refine a6 ?_; refine sx7 ?_; refine qy ?_
 refine bw rfl rfl rfl rfl rfl rfl arj (atv l hl) (dn.refl _) trivial rfl rfl ?_; refine qy ?_; refine a6 ?_; (iterate 2 refine a7 ?_)
 have hsl := aes l
 refine gy ?_; (iterate 3 refine qy ?_); refine a6 ?_; refine ae ?_
 refine aj (ι := Nat) ⟨[(3, some _), (11, some _)], []⟩ ⟨⟨c9, c9, trivial⟩, trivial⟩ (fun i => ⟨[(12, some (vI i))], [(900, some (.arr true 2 40 (spl l).length (lf Fd.c (it (spl l) i))))]⟩) (fun i => i ≤ (spl l).length) (fun i => (spl l).length - i) (0) (Nat.zero_le _) ⟨⟨zy, trivial⟩, ⟨u9, trivial⟩⟩ ?_
 rintro i hi
 have htl := ku (l := spl l) (i := i)
 refine sx7 ?_; refine qy ?_; refine a6 ?_; refine a7 ?_; refine a8 _ rfl (fun r0 => ?_) (fun r0 => ?_)
 ·
  have h0 := of_decide_eq_true r0
  try simp only [ty] at h0
  refine aa ?_; refine a7 ?_; refine ae ?_; refine sx7 ?_; (iterate 2 refine qy ?_); refine a6 ?_; refine sx7 ?_; (iterate 5 refine qy ?_)
  refine rc rfl rfl rfl rfl rfl rfl a6r (aok ((it (spl l) i).getD i default).lhs) (CoL.refl _) rfl rfl ?_; (iterate 2 refine qy ?_); refine a6 ?_; refine ae ?_
  refine aj (ι := Nat) ⟨[(3, some _), (4, some _), (11, some _), (12, some _), (20, some _), (21, some _)], []⟩ ⟨⟨c9, c9, c9, c9, c9, c9, trivial⟩, trivial⟩ (fun k => ⟨[(22, some (vI k))], [(900, some (.arr true 2 40 (spl l).length (lf Fd.c (lx (it (spl l) i) i k))))]⟩) (fun k => k ≤ (av ((it (spl l) i).getD i default).lhs).length) (fun k => (av ((it (spl l) i).getD i default).lhs).length - k) (0) (Nat.zero_le _) ⟨⟨zy, trivial⟩, ⟨⟨_, rfl, (er (ak0 _ _) rfl)⟩, trivial⟩⟩ ?_
  rintro k hk
  have hml := x4 ((it (spl l) i).getD i default).lhs
  refine sx7 ?_; refine qy ?_; refine a6 ?_; refine a7 ?_; refine a8 _ rfl (fun r1 => ?_) (fun r1 => ?_)
  ·
   have h1 := of_decide_eq_true r1
   try simp only [ty] at h1
   have hkl : (lx (it (spl l) i) i k).length = (spl l).length := by rw [aab, ku]
   have hhas := ao2 (l := (it (spl l) i)) (i := i) (k := k) (by rw [ku]; omega) (by omega)
   refine aa ?_; refine a7 ?_; refine ae ?_; refine sx7 ?_; (iterate 3 refine qy ?_); refine a6 ?_; refine sx7 ?_; (iterate 6 refine qy ?_)
   refine rc rfl rfl rfl rfl rfl rfl aq3 (axd (lx (it (spl l) i) i k) ((lx (it (spl l) i) i k).getD i default) ((av ((it (spl l) i).getD i default).lhs).getD k default)) (⟨CoC.one (aei (by rw [aab, ku])), CoC.refl _, CoC.refl _, trivial⟩) rfl rfl ?_
   refine a6 ?_; refine a8 _ rfl (fun r2 => ?_) (fun r2 => ?_)
   ·
    have h2 := r2
    refine aw (E := b4) af aq [0, 1, 2, 3, 4, 5, 6, 7, 8, 9, 10] ?_; (iterate 6 refine qy ?_); refine rq rfl rfl rfl rfl rfl ?_ (hp := (Int.natCast_nonneg _)); (iterate 3 refine qy ?_); refine s9 ?_
    refine a6 ?_; refine ⟨by kernel_rfl, ?_⟩; refine gy ?_; (iterate 2 refine qy ?_); refine a6 ?_
    first | (refine ⟨k + 1, ?_, ?_, ?_⟩
             · show k + 1 ≤ _; omega
             · first | omega | (dsimp only; omega)
             · exact ⟨⟨zy, c9, c9, c9, c9, c9, c9, trivial⟩, ⟨⟨_, rfl, (aev (i := i) (a := (av ((it (spl l) i).getD i default).lhs).getD k default) (l := (lx (it (spl l) i) i k)) (by rw [uh (by omega), akp hhas (by assumption)]) (a6v _ _) (by omega) (by omega) hkl.symm)⟩, trivial⟩⟩)
          | (refine ⟨k + 1, ?_, ?_, ?_⟩
             · show k + 1 ≤ _; omega
             · first | omega | (dsimp only; omega)
             · exact ⟨⟨zy, c9, c9, c9, c9, c9, c9, trivial⟩, ⟨⟨_, rfl, (er (by rw [uh (by omega), ahi (by assumption)]) rfl)⟩, trivial⟩⟩)
   ·
    have h2 := r2
    refine aa ?_; refine gy ?_; (iterate 2 refine qy ?_); refine a6 ?_
    first | (refine ⟨k + 1, ?_, ?_, ?_⟩
             · show k + 1 ≤ _; omega
             · first | omega | (dsimp only; omega)
             · exact ⟨⟨zy, c9, c9, c9, c9, c9, c9, trivial⟩, ⟨⟨_, rfl, (aev (i := i) (a := (av ((it (spl l) i).getD i default).lhs).getD k default) (l := (lx (it (spl l) i) i k)) (by rw [uh (by omega), akp hhas (by assumption)]) (a6v _ _) (by omega) (by omega) hkl.symm)⟩, trivial⟩⟩)
          | (refine ⟨k + 1, ?_, ?_, ?_⟩
             · show k + 1 ≤ _; omega
             · first | omega | (dsimp only; omega)
             · exact ⟨⟨zy, c9, c9, c9, c9, c9, c9, trivial⟩, ⟨⟨_, rfl, (er (by rw [uh (by omega), ahi (by assumption)]) rfl)⟩, trivial⟩⟩)
  ·
   have h1 := of_decide_eq_false r1
   try simp only [ty] at h1
   obtain rfl : k = (av ((it (spl l) i).getD i default).lhs).length := by omega
   refine al ?_; refine gy ?_; (iterate 2 refine qy ?_); refine a6 ?_; refine ⟨i + 1, ?_, ?_, ?_⟩
   · show i + 1 ≤ _; omega
   · first | omega | (dsimp only; omega)
   · exact ⟨⟨zy, c9, c9, trivial⟩, ⟨⟨_, rfl, (er (by rw [al0, aoh rfl]) rfl)⟩, trivial⟩⟩
 ·
  have h0 := of_decide_eq_false r0
  try simp only [ty] at h0
  obtain rfl : i = (spl l).length := by omega
  refine al ?_; refine a7 ?_; refine bs 3 rfl rfl rfl ?_; refine gy ?_; refine qy ?_
  refine rc rfl rfl rfl rfl rfl rfl aet (ayf (it (spl l) (spl l).length) (by rw [ku]; omega)) (⟨CoC.one (aei (by rw [ku])), trivial⟩) rfl rfl ?_; refine qy ?_; refine a6 ?_; (iterate 2 refine a7 ?_)
  have hrl := afc l
  refine gy ?_; refine qy ?_; refine a6 ?_; refine ae ?_
  refine aj (ι := List Fd × Nat) ⟨[], []⟩ ⟨trivial, trivial⟩ (fun x => ⟨[(3, some (bu (fdl x.1))), (7, some (vI x.2))], []⟩) (fun x => qx (x.1.length - x.2) x.1 x.2 = agb l ∧ x.2 ≤ x.1.length ∧ x.1.length ≤ 131072) (fun x => x.1.length - x.2) ((zu l, 0)) (⟨rfl, Nat.zero_le _, by show (zu l).length ≤ _; omega⟩) ⟨⟨zy, ⟨_, rfl, (coi rfl)⟩, trivial⟩, trivial⟩ ?_
  rintro x ⟨hx, hx2, hx3⟩
  refine a7 ?_; refine sx7 ?_; (iterate 4 refine qy ?_); refine a6 ?_; refine a8 _ rfl (fun r3 => ?_) (fun r3 => ?_)
  ·
   have h3 := of_decide_eq_true r3
   try simp only [ty] at h3
   refine aa ?_; refine ae ?_; refine sx7 ?_; (iterate 2 refine qy ?_); refine rc rfl rfl rfl rfl rfl rfl ar3 (auf x.1 x.2 (by omega) (by omega)) (CoL.refl _) rfl rfl ?_; refine a6 ?_
   refine a8 _ rfl (fun r4 => ?_) (fun r4 => ?_)
   ·
    have h4 := r4
    have hq := r4
    refine gy ?_; (iterate 2 refine qy ?_); refine rc rfl rfl rfl rfl rfl rfl adj (af2 x.1 x.2 (by omega) (by omega)) (CoL.refl _) rfl rfl ?_; refine qy ?_; refine a6 ?_
    first | (refine ⟨(j6 x.1 x.2, x.2), ?_, ?_, ?_⟩
             · have ho := kd (l := x.1) (i := x.2) (by omega)
               exact ⟨by rw [← hx, ae0 (by omega) hq], by dsimp only; omega, by dsimp only; omega⟩
             · have ho := kd (l := x.1) (i := x.2) (by omega)
               dsimp only; omega
             · exact ⟨⟨zy, ⟨_, rfl, (coi (by first | rfl | (dsimp only; omega)))⟩, trivial⟩, trivial⟩)
          | (refine ⟨(x.1, x.2 + 1), ?_, ?_, ?_⟩
             · exact ⟨by rw [← hx, ae1 (by omega) hq], by dsimp only; omega, by dsimp only; omega⟩
             · first | omega | (dsimp only; omega)
             · exact ⟨⟨zy, ⟨_, rfl, (coi (by first | rfl | (dsimp only; omega)))⟩, trivial⟩, trivial⟩)
   ·
    have h4 := r4
    have hq := r4
    refine gy ?_; (iterate 3 refine qy ?_); refine a6 ?_
    first | (refine ⟨(j6 x.1 x.2, x.2), ?_, ?_, ?_⟩
             · have ho := kd (l := x.1) (i := x.2) (by omega)
               exact ⟨by rw [← hx, ae0 (by omega) hq], by dsimp only; omega, by dsimp only; omega⟩
             · have ho := kd (l := x.1) (i := x.2) (by omega)
               dsimp only; omega
             · exact ⟨⟨zy, ⟨_, rfl, (coi (by first | rfl | (dsimp only; omega)))⟩, trivial⟩, trivial⟩)
          | (refine ⟨(x.1, x.2 + 1), ?_, ?_, ?_⟩
             · exact ⟨by rw [← hx, ae1 (by omega) hq], by dsimp only; omega, by dsimp only; omega⟩
             · first | omega | (dsimp only; omega)
             · exact ⟨⟨zy, ⟨_, rfl, (coi (by first | rfl | (dsimp only; omega)))⟩, trivial⟩, trivial⟩)
  ·
   have h3 := of_decide_eq_false r3
   try simp only [ty] at h3
   have hq := h3
   refine al ?_; refine sx7 ?_; (iterate 2 refine qy ?_); refine a6 ?_
   exact hx8 rfl rfl rfl (⟨CoC.one (CoP.of_eq (by rw [← hx, aid (by omega)])), trivial⟩)
end Go.Hx
end
section
namespace Go.Hx
def ld (n : Int) (l : List Fd) : List Fd := if c8 n l = 0 then agb l else []
theorem aui {n : Int} {l : List Fd} (h : c8 n l = 0) : ld n l = agb l := if_pos h
theorem avd {n : Int} {l : List Fd} (h : ¬ c8 n l = 0) : ld n l = [] := if_neg h
theorem b08 {s : Nat} {cl : Bool} {f : Nat → Nat → PV} {L : List Fd} (h : L = []) : CoP (.sl 0 s cl f) (fdl L) := by subst h; exact aik
theorem a69 {s : Nat} {cl : Bool} {f : Nat → Nat → PV} {L : List AS} (h : L = []) : CoP (.sl 0 s cl f) (asl L) := by subst h; exact aik
def b10 (l : List Fd) (i k : Nat) : List Fd := (List.range k).foldl (o3 i) l
end Go.Hx
end
section
namespace Go.Hx
open Go.Proofs
set_option maxRecDepth 100000
theorem at9 : goodFn Tryz.prog 115 := ⟨Tryz.f115, Tryz.func115, by kernel_rfl, by kernel_rfl⟩
theorem ay7 (n : Int) (l : List Fd) : ah Tryz.prog 115 [pI n, pP (fdl l)] (ap [pP (fdl (ld n l)), pI (c8 n l)]) := by
 refine ag (nt := 15) af Tryz.func115 rfl rfl l9 ?_; refine sx7 ?_; (iterate 2 refine qy ?_); refine a6 ?_; refine a7 ?_; refine sx7 ?_; (iterate 2 refine qy ?_)
 refine rc rfl rfl rfl rfl rfl rfl a06 (z8 n l) (CoL.refl _) rfl rfl ?_; refine qy ?_; refine a6 ?_; refine sx7 ?_; (iterate 2 refine qy ?_); refine a6 ?_; refine a8 _ rfl (fun r0 => ?_) (fun r0 => ?_)
 ·
  have h0 := r0
  have h0 := of_decide_eq_false (ay h0)
  try simp only [ty] at h0
  refine sx7 ?_; (iterate 3 refine qy ?_); refine a6 ?_
  exact hx8 rfl rfl rfl (⟨CoC.one (b08 (avd (by assumption))), CoC.refl _, trivial⟩)
 ·
  have h0 := r0
  have h0 := of_decide_eq_true (ax h0)
  try simp only [ty] at h0
  refine aa ?_; refine sx7 ?_; refine qy ?_; refine rc rfl rfl rfl rfl rfl rfl au4 (b01 l (by have := (gw (by assumption)).2.2.1; omega)) (CoL.refl _) rfl rfl ?_; (iterate 2 refine qy ?_); refine a6 ?_
  exact hx8 rfl rfl rfl (⟨CoC.one (CoP.of_eq (by rw [aui (by assumption)])), cci (by omega), trivial⟩)
end Go.Hx
end
section
namespace Go.Hx
theorem xp (a b : Nat) : a &&& b = 2 * (a / 2 &&& b / 2) + (a % 2 &&& b % 2) := by
 have h1 := Nat.div_add_mod (a &&& b) 2
 have h2 : (a &&& b) % 2 = a % 2 &&& b % 2 := by
  have := Nat.and_mod_two_pow (a := a) (b := b) (n := 1)
  simpa using this
 rw [Nat.and_div_two, h2] at h1
 exact h1.symm
theorem a6z (a b : Nat) : (a % 2 &&& b % 2) = if a % 2 = 1 ∧ b % 2 = 1 then 1 else 0 := by
 rcases Nat.mod_two_eq_zero_or_one a with h | h <;> rcases Nat.mod_two_eq_zero_or_one b with k | k <;> rw [h, k] <;> rfl
theorem yx {x s : Nat} (h : x &&& s = x) : (x / 2 &&& s / 2 = x / 2) ∧ (x % 2 = 1 → s % 2 = 1) := by
 have h1 := xp x s
 rw [h, a6z] at h1
 split at h1 <;> rename_i hc
 · exact ⟨by omega, fun _ => hc.2⟩
 · exact ⟨by omega, fun hx => by omega⟩
theorem abu : ∀ (x s z : Nat), x &&& s = x → z &&& s = z → z < x → z ≤ ((x - 1) &&& s) := by
 intro x
 induction x using Nat.strongRecOn with
 | _ x ih =>
  intro s z hx hz hlt
  obtain ⟨x1, x2⟩ := yx hx
  obtain ⟨z1, z2⟩ := yx hz
  rw [xp (x - 1) s, a6z]
  rcases Nat.mod_two_eq_zero_or_one x with hb | hb
  · have e1 : (x - 1) / 2 = x / 2 - 1 := by omega
    have e2 : (x - 1) % 2 = 1 := by omega
    have := ih (x / 2) (by omega) (s / 2) (z / 2) x1 z1 (by omega)
    rw [e1, e2]
    by_cases hs : s % 2 = 1
    · rw [if_pos ⟨rfl, hs⟩]; omega
    · rw [if_neg (fun h => hs h.2)]
      have : z % 2 = 0 := by omega
      omega
  · have e1 : (x - 1) / 2 = x / 2 := by omega
    have e2 : (x - 1) % 2 = 0 := by omega
    rw [e1, e2, x1, if_neg (by omega)]
    omega
theorem af1 : ∀ (w y s : Nat), y &&& s = y → s < 2 ^ w → ((2 ^ w - 1 - y) &&& s) = s - y := by
 intro w
 induction w with
 | zero => intro y s h hs; obtain rfl : s = 0 := (by simpa using hs); simp
 | succ w ih =>
  intro y s h hs
  obtain ⟨y1, y2⟩ := yx h
  have hle : y ≤ s := by rw [← h]; exact Nat.and_le_right
  rw [Nat.pow_succ] at hs ⊢
  have hp := Nat.two_pow_pos w
  have := ih (y / 2) (s / 2) y1 (by omega)
  have hle2 : y / 2 ≤ s / 2 := by omega
  rw [xp, a6z, show (2 ^ w * 2 - 1 - y) / 2 = 2 ^ w - 1 - y / 2 by omega, this]
  split <;> omega
theorem ajr {y s : Nat} (h : y &&& s = y) : (s - y) &&& s = s - y := by
 rw [← af1 s y s h Nat.lt_two_pow_self, Nat.and_assoc, Nat.and_self]
theorem asy {w x s : Nat} (hx : x &&& s = x) (hs : s < 2 ^ w) (hne : x < s) : ((2 ^ w + x - s) &&& s) = s - ((s - x - 1) &&& s) := by
 have h1 : ((s - x - 1) &&& s) &&& s = (s - x - 1) &&& s := by rw [Nat.and_assoc, Nat.and_self]
 rw [← af1 w _ s h1 hs]
 have hp := Nat.two_pow_pos w
 apply Nat.eq_of_testBit_eq
 intro i
 have hlt : s - x - 1 < 2 ^ w := by omega
 have hlt2 : ((s - x - 1) &&& s) < 2 ^ w := Nat.lt_of_le_of_lt Nat.and_le_left hlt
 rw [Nat.testBit_and, Nat.testBit_and, show 2 ^ w + x - s = 2 ^ w - (s - x - 1 + 1) by omega, Nat.testBit_two_pow_sub_succ hlt, show 2 ^ w - 1 - ((s - x - 1) &&& s) = 2 ^ w - (((s - x - 1) &&& s) + 1) by omega, Nat.testBit_two_pow_sub_succ hlt2, Nat.testBit_and]
 cases s.testBit i <;> simp
theorem abh {w x s z : Nat} (hx : x &&& s = x) (hs : s < 2 ^ w) (hz : z &&& s = z) (hlt : x < z) : ((2 ^ w + x - s) &&& s) ≤ z ∧ x < ((2 ^ w + x - s) &&& s) := by
 have hzs : z ≤ s := by rw [← hz]; exact Nat.and_le_right
 rw [asy hx hs (by omega)]
 have h1 := abu (s - x) s (s - z) (ajr hx) (ajr hz) (by omega)
 have h2 : ((s - x - 1) &&& s) ≤ s - x - 1 := Nat.and_le_left
 omega
theorem zz {z s : AS} : sub z s ↔ z.toNat &&& s.toNat = z.toNat := by
 rw [← BitVec.toNat_and, BitVec.toNat_inj, c6]
 constructor
 · intro h
   apply BitVec.eq_of_getLsbD_eq
   intro k hk
   rw [BitVec.getLsbD_and]
   cases hz : z.getLsbD k with
   | false => rfl
   | true => rw [h k hk hz]; rfl
 · intro h i _ hi
   rw [← h, BitVec.getLsbD_and] at hi
   simp at hi
   exact hi.2
theorem ael {z s : AS} (h : sub z s) : bsz z ≤ bsz s := by
 unfold bsz
 apply List.countP_mono_left
 intro i hi hb
 exact c6.1 h i (List.mem_range.1 hi) hb
def y7 (s : AS) : Nat → AS → List AS
 | 0, _ => []
 | n + 1, x => x :: if x = 0 then [] else y7 s n ((x - 1) &&& s)
theorem acf {x : AS} (h : x ≠ 0) : (x - 1).toNat = x.toNat - 1 := by
 have h0 : x.toNat ≠ 0 := fun e => h (BitVec.eq_of_toNat_eq e)
 have := x.isLt
 rw [BitVec.toNat_sub]
 show (2 ^ 32 - 1 + x.toNat) % 2 ^ 32 = _
 omega
theorem a2i {x s : AS} : sub ((x - 1) &&& s) s := by
 rw [zz, BitVec.toNat_and, Nat.and_assoc, Nat.and_self]
theorem s5 {x s : AS} (h : x ≠ 0) : ((x - 1) &&& s).toNat < x.toNat := by
 have h0 : x.toNat ≠ 0 := fun e => h (BitVec.eq_of_toNat_eq e)
 rw [BitVec.toNat_and, acf h]
 have : ((x.toNat - 1) &&& s.toNat) ≤ x.toNat - 1 := Nat.and_le_left
 omega
theorem a99 {x s z : AS} (hx : sub x s) (hz : sub z s) (h : z.toNat < x.toNat) : z.toNat ≤ ((x - 1) &&& s).toNat := by
 have h0 : x ≠ 0 := fun e => by subst e; exact absurd h (Nat.not_lt_zero _)
 rw [BitVec.toNat_and, acf h0]
 exact abu _ _ _ (zz.1 hx) (zz.1 hz) h
theorem abq {s : AS} : ∀ (n : Nat) (x : AS), sub x s → x.toNat < n → ∀ z, z ∈ y7 s n x ↔ sub z s ∧ z.toNat ≤ x.toNat
 | 0, x, _, h, z => absurd h (Nat.not_lt_zero _)
 | n + 1, x, hx, h, z => by
  unfold y7
  by_cases h0 : x = 0
  · rw [if_pos h0, List.mem_singleton]
    subst h0
    constructor
    · rintro rfl; exact ⟨hx, Nat.le_refl _⟩
    · rintro ⟨_, h⟩
      exact BitVec.eq_of_toNat_eq (Nat.le_antisymm h (Nat.zero_le _))
  · rw [if_neg h0, List.mem_cons, abq n _ a2i (by have := s5 (s := s) h0; omega)]
    constructor
    · rintro (rfl | ⟨h1, h2⟩)
      · exact ⟨hx, Nat.le_refl _⟩
      · have := s5 (s := s) h0
        exact ⟨h1, by omega⟩
    · rintro ⟨h1, h2⟩
      by_cases he : z = x
      · exact .inl he
      · have hne : z.toNat ≠ x.toNat := fun e => he (BitVec.eq_of_toNat_eq e)
        exact .inr ⟨h1, a99 hx h1 (by omega)⟩
def tz (s : AS) : List AS := ord (y7 s (s.toNat + 1) s)
theorem sub_self (s : AS) : sub s s := by rw [zz, Nat.and_self]
theorem a8o {z s : AS} (h : sub z s) : z.toNat ≤ s.toNat := by rw [← zz.1 h]; exact Nat.and_le_right
theorem a78 {s z : AS} : z ∈ tz s ↔ sub z s := by
 unfold tz
 rw [sb, abq _ _ (sub_self s) (Nat.lt_succ_self _)]
 exact ⟨fun h => h.1, fun h => ⟨h, a8o h⟩⟩
theorem a9l {l : List AS} {s : AS} (ho : ly l) (h : ∀ z, z ∈ l ↔ sub z s) : l = tz s := ke ho (gm _) fun z => by rw [h z]; exact a78.symm
def d3 (s : AS) : List AS := if 12 < bsz s then [] else tz s
theorem wk {s : AS} (h : (12 : Int) < bsz s) : d3 s = [] := if_pos (by omega)
theorem a5h {s : AS} (h : ¬ (12 : Int) < bsz s) : d3 s = tz s := if_neg (by omega)
def a12 (s : AS) (y : List AS × AS) : Prop := sub y.2 s ∧ y.1.length + y.2.toNat ≤ s.toNat + 1 ∧ ∀ z, z ∈ y.1 ↔ sub z s ∧ y.2.toNat ≤ z.toNat
theorem a85 (s : AS) : a12 s ([s], s) := ⟨sub_self s, by simp only [List.length_singleton]; omega, fun z => by
 rw [List.mem_singleton]
 constructor
 · rintro rfl; exact ⟨sub_self _, Nat.le_refl _⟩
 · rintro ⟨h1, h2⟩; exact BitVec.eq_of_toNat_eq (Nat.le_antisymm (a8o h1) h2)⟩
theorem a7i {s : AS} {y : List AS × AS} (h : a12 s y) (h0 : y.2 ≠ 0) : a12 s (y.1 ++ [(y.2 - 1) &&& s], (y.2 - 1) &&& s) := by
 obtain ⟨h1, h2, h3⟩ := h
 have hl := s5 (s := s) h0
 refine ⟨a2i, by simp only [List.length_append, List.length_singleton]; omega, fun z => ?_⟩
 rw [List.mem_append, List.mem_singleton, h3]
 constructor
 · rintro (⟨k1, k2⟩ | rfl)
   · exact ⟨k1, by dsimp only; omega⟩
   · exact ⟨a2i, Nat.le_refl _⟩
 · rintro ⟨k1, k2⟩
   dsimp only at k2
   by_cases hz : y.2.toNat ≤ z.toNat
   · exact .inl ⟨k1, hz⟩
   · have := a99 h1 k1 (by omega)
     exact .inr (BitVec.eq_of_toNat_eq (by omega))
theorem ab5 {s : AS} {y : List AS × AS} (h : a12 s y) (h0 : y.2 = 0) : ord y.1 = tz s := a9l (gm _) fun z => by
 rw [sb, h.2.2, h0]
 exact ⟨fun h => h.1, fun h => ⟨h, Nat.zero_le _⟩⟩
def nxt (x s : Nat) : Nat := if x = s then s + 1 else ((2 ^ 64 + x - s) &&& s)
def UpI (s : AS) (k : Nat) (y : List AS × Nat) : Prop :=
 (y.2 = s.toNat + 1 ∨ y.2 &&& s.toNat = y.2) ∧ y.1.length ≤ k * 4294967296 + y.2 ∧ ly y.1 ∧ ∀ z, z ∈ y.1 ↔ sub z s ∧ (bsz z < k ∨ bsz z = k ∧ z.toNat < y.2)
theorem ot {x s : Nat} (hs : s < 2 ^ 32) (hx : x &&& s = x) : x < nxt x s ∧ (nxt x s = s + 1 ∨ nxt x s &&& s = nxt x s) ∧ ∀ z, z &&& s = z → x < z → nxt x s ≤ z := by
 have hle : x ≤ s := by rw [← hx]; exact Nat.and_le_right
 have hs' : s < 2 ^ 64 := Nat.lt_trans hs (by decide)
 unfold nxt
 by_cases he : x = s
 · rw [if_pos he]
   refine ⟨by omega, .inl rfl, fun z hz hlt => ?_⟩
   have : z ≤ s := by rw [← hz]; exact Nat.and_le_right
   omega
 · rw [if_neg he]
   refine ⟨(abh hx hs' (Nat.and_self s) (by omega)).2, .inr (by rw [Nat.and_assoc, Nat.and_self]), fun z hz hlt => (abh hx hs' hz hlt).1⟩
theorem x8 {s : AS} {k : Nat} {y : List AS × Nat} (h : UpI s k y) (hy : y.2 ≤ s.toNat) : y.2 &&& s.toNat = y.2 := by
 rcases h.1 with h | h
 · omega
 · exact h
theorem aot {s : AS} {k : Nat} {y : List AS × Nat} (h : UpI s k y) : y.2 ≤ s.toNat + 1 := by
 rcases h.1 with h | h
 · omega
 · have : y.2 ≤ s.toNat := by rw [← h]; exact Nat.and_le_right
   omega
theorem aip {s : AS} {k : Nat} {y : List AS × Nat} (h : UpI s k y) (hy : y.2 ≤ s.toNat) : (BitVec.ofNat 32 y.2).toNat = y.2 := by
 have := s.isLt
 rw [BitVec.toNat_ofNat, Nat.mod_eq_of_lt (by omega)]
theorem ax4 {s : AS} {k : Nat} {y : List AS × Nat} (h : UpI s k y) (hy : y.2 ≤ s.toNat) (hk : bsz (BitVec.ofNat 32 y.2) = k) : UpI s k (y.1 ++ [BitVec.ofNat 32 y.2], nxt y.2 s.toNat) := by
 have hn := aip h hy
 obtain ⟨s1, s2, s3⟩ := ot s.isLt (x8 h hy)
 have hsub : sub (BitVec.ofNat 32 y.2) s := zz.2 (by rw [hn]; exact x8 h hy)
 obtain ⟨h1, h2, h3, h4⟩ := h
 refine ⟨s2, by simp only [List.length_append, List.length_singleton]; omega, ?_, fun z => ?_⟩
 · refine List.pairwise_append.2 ⟨h3, List.pairwise_singleton _ _, fun a ha b hb => ?_⟩
   rw [List.mem_singleton] at hb
   subst hb
   rw [jp]
   have := ((h4 a).1 ha).2
   omega
 · rw [List.mem_append, List.mem_singleton, h4]
   dsimp only
   constructor
   · rintro (⟨k1, k2⟩ | rfl)
     · exact ⟨k1, by omega⟩
     · exact ⟨hsub, .inr ⟨hk, by omega⟩⟩
   · rintro ⟨k1, k2 | ⟨k2, k3⟩⟩
     · exact .inl ⟨k1, .inl k2⟩
     · by_cases hz : z.toNat < y.2
       · exact .inl ⟨k1, .inr ⟨k2, hz⟩⟩
       · by_cases hz2 : y.2 < z.toNat
         · have := s3 z.toNat (zz.1 k1) hz2
           omega
         · exact .inr (BitVec.eq_of_toNat_eq (by omega))
theorem av8 {s : AS} {k : Nat} {y : List AS × Nat} (h : UpI s k y) (hy : y.2 ≤ s.toNat) (hk : bsz (BitVec.ofNat 32 y.2) ≠ k) : UpI s k (y.1, nxt y.2 s.toNat) := by
 have hn := aip h hy
 obtain ⟨s1, s2, s3⟩ := ot s.isLt (x8 h hy)
 obtain ⟨h1, h2, h3, h4⟩ := h
 refine ⟨s2, by dsimp only; omega, h3, fun z => ?_⟩
 rw [h4]
 dsimp only
 constructor
 · rintro ⟨k1, k2⟩
   exact ⟨k1, by omega⟩
 · rintro ⟨k1, k2 | ⟨k2, k3⟩⟩
   · exact ⟨k1, .inl k2⟩
   · by_cases hz : z.toNat < y.2
     · exact ⟨k1, .inr ⟨k2, hz⟩⟩
     · by_cases hz2 : y.2 < z.toNat
       · have := s3 z.toNat (zz.1 k1) hz2
         omega
       · have e : z = BitVec.ofNat 32 y.2 := BitVec.eq_of_toNat_eq (by omega)
         exact absurd (e ▸ k2) hk
def UpK (s : AS) (k : Nat) (l : List AS) : Prop := l.length ≤ k * 4294967296 ∧ ly l ∧ ∀ z, z ∈ l ↔ sub z s ∧ bsz z < k
theorem amp (s : AS) : UpK s 0 [] := by
 refine ⟨?_, List.Pairwise.nil, fun z => ?_⟩
 · show 0 ≤ _
   exact Nat.zero_le _
 · constructor
   · intro h; cases h
   · rintro ⟨_, h⟩; omega
theorem awq {s : AS} {k : Nat} {l : List AS} (h : UpK s k l) : UpI s k (l, 0) := by
 obtain ⟨h1, h2, h3⟩ := h
 unfold UpI
 dsimp only
 refine ⟨.inr (Nat.zero_and _), Nat.le_trans h1 (Nat.le_add_right _ _), h2, fun z => ?_⟩
 rw [h3]
 constructor
 · rintro ⟨a, b⟩
   exact ⟨a, .inl b⟩
 · rintro ⟨a, b | ⟨_, b⟩⟩
   · exact ⟨a, b⟩
   · exact absurd b (Nat.not_lt_zero _)
theorem as9 {s : AS} {k : Nat} {y : List AS × Nat} (h : UpI s k y) (hy : ¬ y.2 ≤ s.toNat) : UpK s (k + 1) y.1 := by
 have h0 := aot h
 have := s.isLt
 obtain ⟨h1, h2, h3, h4⟩ := h
 refine ⟨by rw [Nat.add_mul]; omega, h3, fun z => ?_⟩
 rw [h4]
 constructor
 · rintro ⟨k1, k2⟩
   exact ⟨k1, by omega⟩
 · rintro ⟨k1, k2⟩
   have := a8o k1
   exact ⟨k1, by omega⟩
theorem aq7 {s : AS} {k : Nat} {l : List AS} (h : UpK s k l) (hk : bsz s < k) : l = tz s := a9l h.2.1 fun z => by
 rw [h.2.2]
 exact ⟨fun h => h.1, fun h => ⟨h, by have := ael h; omega⟩⟩
abbrev pU (n : Nat) : PC := .one (.raw (.int .u64 (n : Int)))
abbrev vU (n : Nat) : HR := bu (.raw (.int .u64 (n : Int)))
theorem a9u (n : Int) : IntKind.wrap .u64 n = n % 18446744073709551616 := by
 simp [IntKind.wrap, IntKind.signed, IntKind.bits]
theorem awa {x s : Nat} (hs : s < 4294967296) (hx : x ≤ s) (h : ¬ (x : Int) = s) {a : Int} (ha : a = IntKind.wrap .u64 ((x : Int) - s) ∨ a = (x : Int) - s) : da .and .u64 a s = (nxt x s : Nat) := by
 unfold nxt
 rw [if_neg (by omega)]
 show IntKind.wrap .u64 ((BitVec.ofInt 64 a &&& BitVec.ofInt 64 s).toNat : Int) = _
 have e1 : (BitVec.ofInt 64 a).toNat = 2 ^ 64 + x - s := by
  rw [BitVec.toNat_ofInt]
  rcases ha with rfl | rfl
  · rw [a9u]
    omega
  · omega
 have e2 : (BitVec.ofInt 64 (s : Int)).toNat = s := by
  rw [BitVec.toNat_ofInt]
  omega
 have h2 : ((2 ^ 64 + x - s) &&& s) ≤ s := Nat.and_le_right
 rw [BitVec.toNat_and, e1, e2, a9u]
 omega
theorem ax8 {x s : Nat} (hs : s < 4294967296) (h : (x : Int) = s) : (s : Int) + 1 = (nxt x s : Nat) := by
 unfold nxt
 rw [if_pos (by omega)]
 omega
theorem xd {x s : AS} (h : x ≠ 0) : da .and .u32 (asI x - 1) (asI s) = asI ((x - 1) &&& s) := by rw [aad h, oq]
theorem xq {α : Type} [Inhabited α] {wr wr' : Bool} {e : TypeId} {c : α → Nat → PV} {x : α} {f : Nat → Nat → PV} (h : CoP (f 0 0) (c x 0)) (hw : wr' = true → wr = true := by exact fun h => h) : CoO (.arr wr 1 e 1 f) (.arr wr' 1 e [x].length (lf c [x])) :=
 ⟨hw, rfl, rfl, rfl, fun i j hi hj => by
  have hi : i < 1 := hi
  have hj : j < 1 := hj
  obtain rfl : j = 0 := by omega
  obtain rfl : i = 0 := by omega
  exact h⟩
theorem vn {n : Nat} (h : n < 4294967296) : (n : Int) = asI (BitVec.ofNat 32 n) := by
 unfold asI
 rw [BitVec.toNat_ofNat]
 omega
end Go.Hx
end
section
namespace Go.Hx
open Go.Proofs
set_option maxRecDepth 100000
theorem aep : goodFn Tryz.prog 154 := ⟨Tryz.f154, Tryz.func154, by kernel_rfl, by kernel_rfl⟩
theorem ap1 (x s : Nat) (hs : s < 4294967296) (hx : x ≤ s) : ah Tryz.prog 154 [pU x, pU s] (ap [pU (nxt x s)]) := by
 refine ag (nt := 15) af Tryz.func154 rfl rfl l9 ?_; refine sx7 ?_; refine qy ?_; refine a6 ?_; refine a7 ?_; refine sx7 ?_; (iterate 3 refine qy ?_); refine a6 ?_
 refine a8 _ rfl (fun r0 => ?_) (fun r0 => ?_)
 ·
  have h0 := of_decide_eq_true r0
  try simp only [ty] at h0
  refine sx7 ?_; (iterate 3 refine qy ?_); refine a6 ?_
  exact hx8 rfl rfl rfl (⟨cci (ax8 hs h0), trivial⟩)
 ·
  have h0 := of_decide_eq_false r0
  try simp only [ty] at h0
  refine aa ?_; refine sx7 ?_; (iterate 2 refine qy ?_); refine rqw rfl rfl rfl rfl rfl ?_; (iterate 3 refine qy ?_); refine a6 ?_
  exact hx8 rfl rfl rfl (⟨cci (awa hs hx h0 (by first | exact .inl rfl | exact .inr rfl)), trivial⟩)
theorem ai6 : goodFn Tryz.prog 53 := ⟨Tryz.f53, Tryz.func53, by kernel_rfl, by kernel_rfl⟩
theorem aza (s : AS) : ah Tryz.prog 53 [pA s] (ap [pP (asl (d3 s))]) := by
 refine ag (nt := 23) af Tryz.func53 rfl rfl l9 ?_; refine sx7 ?_; refine qy ?_; refine a6 ?_; refine a7 ?_; refine sx7 ?_; refine qy ?_; refine rc rfl rfl rfl rfl rfl rfl vk (a4c s) (CoL.refl _) rfl rfl ?_
 refine qy ?_; refine a6 ?_; refine a8 _ rfl (fun r0 => ?_) (fun r0 => ?_)
 ·
  have h0 := of_decide_eq_true r0
  try simp only [ty] at h0
  refine sx7 ?_; refine qy ?_; refine a6 ?_
  exact hx8 rfl rfl rfl (⟨CoC.one (a69 (wk h0)), trivial⟩)
 ·
  have h0 := of_decide_eq_false r0
  try simp only [ty] at h0
  refine aa ?_; refine sx7 ?_; refine qy ?_; refine m9 0 ?_; refine qy ?_; refine a6 ?_; refine a7 ?_; refine sx7 ?_; (iterate 2 refine qy ?_); refine a6 ?_; refine ae ?_
  refine aj (ι := List AS × AS) ⟨[(0, some _)], []⟩ ⟨⟨c9, trivial⟩, trivial⟩ (fun y => ⟨[(3, some (.v (.one (.ref 0 y.1.length)))), (4, some (vA y.2))], [(0, some (.arr true 1 38 y.1.length (lf sC y.1)))]⟩) (fun y => a12 s y) (fun y => y.2.toNat) (([s], s)) (a85 s) ⟨⟨zy, zy, trivial⟩, ⟨⟨_, rfl, (xq (CoP.refl _))⟩, trivial⟩⟩ ?_
  rintro y hy
  have hlen := hy.2.1
  have hsl := s.isLt
  refine a7 ?_; refine sx7 ?_; (iterate 2 refine qy ?_); refine a6 ?_; refine a8 _ rfl (fun r1 => ?_) (fun r1 => ?_)
  ·
   have h1 := r1
   have h1 := of_decide_eq_false (ay h1)
   try simp only [ty] at h1
   have hne : y.2 ≠ 0 := fun e => h1 (by rw [e]; rfl)
   refine aa ?_; refine ae ?_; refine sx7 ?_; refine qy ?_; refine rq rfl rfl rfl rfl rfl ?_ (hp := (a36 hne)); (iterate 3 refine qy ?_); refine a6 ?_; refine gy ?_; (iterate 2 refine qy ?_); refine m9 1 ?_
   refine ra 2 true rfl rfl rfl rfl rfl rfl ?_; refine qy ?_; refine a6 ?_; refine ⟨(y.1 ++ [(y.2 - 1) &&& s], (y.2 - 1) &&& s), ?_, ?_, ?_⟩
   · exact a7i hy hne
   · exact s5 hne
   · exact ⟨⟨⟨_, rfl, (ej rfl)⟩, ⟨_, rfl, (nz (xd hne))⟩, c9, trivial⟩, ⟨⟨_, rfl, (f0 rfl (CoP.of_eq (by rw [xd hne]; rfl)))⟩, trivial⟩⟩
  ·
   have h1 := r1
   have h1 := of_decide_eq_true (ax h1)
   try simp only [ty] at h1
   have hz : y.2 = 0 := d4.1 h1
   refine al ?_; refine a7 ?_; refine bs 3 rfl rfl rfl ?_; refine gy ?_; refine qy ?_; refine rc rfl rfl rfl rfl rfl rfl aca (ak8 y.1 (by omega)) (CoL.refl _) rfl rfl ?_; refine qy ?_; refine a6 ?_
   exact hx8 rfl rfl rfl (⟨CoC.one (CoP.of_eq (by rw [a5h h0, ab5 hy hz])), trivial⟩)
theorem aqc : goodFn Tryz.prog 101 := ⟨Tryz.f101, Tryz.func101, by kernel_rfl, by kernel_rfl⟩
theorem avx (s : AS) : ah Tryz.prog 101 [pA s] (ap [pP (asl (d3 s))]) := by
 refine ag (nt := 34) af Tryz.func101 rfl rfl l9 ?_; refine sx7 ?_; refine qy ?_; refine a6 ?_; refine a7 ?_; refine sx7 ?_; refine qy ?_
 refine rc rfl rfl rfl rfl rfl rfl oh (sq _) (⟨cci (by first | rfl | exact vn (by omega)), trivial⟩) rfl rfl ?_; refine qy ?_; refine a6 ?_; refine a8 _ rfl (fun r0 => ?_) (fun r0 => ?_)
 ·
  have h0 := of_decide_eq_true r0
  try simp only [ty] at h0
  refine sx7 ?_; refine qy ?_; refine a6 ?_
  exact hx8 rfl rfl rfl (⟨CoC.one (a69 (wk h0)), trivial⟩)
 ·
  have h0 := of_decide_eq_false r0
  try simp only [ty] at h0
  refine aa ?_; refine sx7 ?_; refine qy ?_; refine a6 ?_; refine a7 ?_; refine sx7 ?_; refine qy ?_; refine a6 ?_; refine ae ?_
  refine dl 3 900 true 1 38 (lf sC []) (by decide) rfl (CoP.sl rfl (.inr rfl) (fun h => h) (fun i j hi _ => absurd hi (Nat.not_lt_zero i))) (.inr rfl) rfl ?_
  refine aj (ι := List AS × Nat) ⟨[(0, some _)], []⟩ ⟨⟨c9, trivial⟩, trivial⟩ (fun x => ⟨[(3, some (.v (.one (.ref 900 x.1.length)))), (4, some (vI x.2))], [(900, some (.arr true 1 38 x.1.length (lf sC x.1)))]⟩) (fun x => UpK s x.2 x.1 ∧ x.2 ≤ bsz s + 1) (fun x => bsz s + 1 - x.2) (([], 0)) (⟨amp s, Nat.zero_le _⟩) ⟨⟨zy, zy, trivial⟩, ⟨u9, trivial⟩⟩ ?_
  rintro x ⟨hx, hxb⟩
  have hlen := hx.1
  have hsl := s.isLt
  have hbz := aam s
  refine a7 ?_; refine sx7 ?_; (iterate 2 refine qy ?_); refine rc rfl rfl rfl rfl rfl rfl oh (sq _) (⟨cci (by first | rfl | exact vn (by omega)), trivial⟩) rfl rfl ?_; refine qy ?_; refine a6 ?_
  refine a8 _ rfl (fun r1 => ?_) (fun r1 => ?_)
  ·
   have h1 := of_decide_eq_true r1
   try simp only [ty] at h1
   refine aa ?_; refine a7 ?_; refine ae ?_; refine sx7 ?_; refine qy ?_; refine a6 ?_; refine ae ?_
   refine aj (ι := List AS × Nat) ⟨[(0, some _), (4, some _)], []⟩ ⟨⟨c9, c9, trivial⟩, trivial⟩ (fun y => ⟨[(3, some (.v (.one (.ref 900 y.1.length)))), (5, some (vU y.2))], [(900, some (.arr true 1 38 y.1.length (lf sC y.1)))]⟩) (fun y => UpI s x.2 y) (fun y => s.toNat + 1 - y.2) ((x.1, 0)) (awq hx) ⟨⟨zy, zy, trivial⟩, ⟨u9, trivial⟩⟩ ?_
   rintro y hy
   have hlen2 := hy.2.1
   have hyl := aot hy
   have hsa : asI s = (s.toNat : Int) := rfl
   refine a7 ?_; refine sx7 ?_; (iterate 2 refine qy ?_); refine rq rfl rfl rfl rfl rfl ?_ (hp := (by simp only [fj, inR, kf, m7]; omega)); refine qy ?_; refine a6 ?_
   refine a8 _ rfl (fun r2 => ?_) (fun r2 => ?_)
   ·
    have h2 := of_decide_eq_true r2
    try simp only [ty] at h2
    refine aa ?_; refine a7 ?_; refine ae ?_; refine sx7 ?_; refine qy ?_; refine rq rfl rfl rfl rfl rfl ?_ (hp := (by simp only [fj, inR, kf, m7]; omega))
    refine rc rfl rfl rfl rfl rfl rfl oh (sq _) (⟨cci (by first | rfl | exact vn (by omega)), trivial⟩) rfl rfl ?_; (iterate 2 refine qy ?_); refine a6 ?_; refine a8 _ rfl (fun r3 => ?_) (fun r3 => ?_)
    ·
     have h3 := of_decide_eq_true r3
     try simp only [ty] at h3
     refine gy ?_; (iterate 2 refine qy ?_); refine rq rfl rfl rfl rfl rfl ?_ (hp := (by simp only [fj, inR, kf, m7]; omega)); refine m9 0 ?_; refine ra 1 true rfl rfl rfl rfl rfl rfl ?_; refine qy ?_; refine a6 ?_
     refine gy ?_; (iterate 2 refine qy ?_); refine rq rfl rfl rfl rfl rfl ?_ (hp := (by simp only [fj, inR, kf, m7]; omega))
     refine rc rfl rfl rfl rfl rfl rfl aep (ap1 y.2 s.toNat s.isLt (by omega)) (⟨CoC.refl _, cci rfl, trivial⟩) rfl rfl ?_; refine qy ?_; refine a6 ?_
     first | (refine ⟨(y.1 ++ [BitVec.ofNat 32 y.2], nxt y.2 s.toNat), ?_, ?_, ?_⟩
              · exact ax4 hy (by omega) (by omega)
              · have := (ot s.isLt (x8 hy (by omega))).1
                dsimp only
                omega
              · exact ⟨⟨⟨_, rfl, (ej rfl)⟩, zy, c9, c9, trivial⟩, ⟨⟨_, rfl, (f0 rfl (CoP.of_eq (congrArg (fun z => PV.raw (.int .u32 z)) (vn (by omega)))))⟩, trivial⟩⟩)
           | (refine ⟨(y.1, nxt y.2 s.toNat), ?_, ?_, ?_⟩
              · exact av8 hy (by omega) (by omega)
              · have := (ot s.isLt (x8 hy (by omega))).1
                dsimp only
                omega
              · exact ⟨⟨zy, zy, c9, c9, trivial⟩, ⟨u9, trivial⟩⟩)
    ·
     have h3 := of_decide_eq_false r3
     try simp only [ty] at h3
     refine aa ?_; refine gy ?_; (iterate 2 refine qy ?_); refine rq rfl rfl rfl rfl rfl ?_ (hp := (by simp only [fj, inR, kf, m7]; omega))
     refine rc rfl rfl rfl rfl rfl rfl aep (ap1 y.2 s.toNat s.isLt (by omega)) (⟨CoC.refl _, cci rfl, trivial⟩) rfl rfl ?_; refine qy ?_; refine a6 ?_
     first | (refine ⟨(y.1 ++ [BitVec.ofNat 32 y.2], nxt y.2 s.toNat), ?_, ?_, ?_⟩
              · exact ax4 hy (by omega) (by omega)
              · have := (ot s.isLt (x8 hy (by omega))).1
                dsimp only
                omega
              · exact ⟨⟨⟨_, rfl, (ej rfl)⟩, zy, c9, c9, trivial⟩, ⟨⟨_, rfl, (f0 rfl (CoP.of_eq (congrArg (fun z => PV.raw (.int .u32 z)) (vn (by omega)))))⟩, trivial⟩⟩)
           | (refine ⟨(y.1, nxt y.2 s.toNat), ?_, ?_, ?_⟩
              · exact av8 hy (by omega) (by omega)
              · have := (ot s.isLt (x8 hy (by omega))).1
                dsimp only
                omega
              · exact ⟨⟨zy, zy, c9, c9, trivial⟩, ⟨u9, trivial⟩⟩)
   ·
    have h2 := of_decide_eq_false r2
    try simp only [ty] at h2
    refine al ?_; refine gy ?_; (iterate 3 refine qy ?_); refine a6 ?_; refine ⟨(y.1, x.2 + 1), ?_, ?_, ?_⟩
    · show UpK s (x.2 + 1) y.1 ∧ x.2 + 1 ≤ _
      exact ⟨as9 (y := y) hy (by omega), by omega⟩
    · dsimp only
      omega
    · exact ⟨⟨zy, zy, c9, trivial⟩, ⟨u9, trivial⟩⟩
  ·
   have h1 := of_decide_eq_false r1
   try simp only [ty] at h1
   refine al ?_; refine sx7 ?_; (iterate 2 refine qy ?_); refine a6 ?_; refine bs 2 rfl rfl rfl ?_
   exact hx8 rfl rfl rfl (⟨CoC.one (CoP.of_eq (by rw [a5h h0, aq7 hx (by omega)]; rfl)), trivial⟩)
end Go.Hx
end
section
namespace Go.Hx
def lh (l : List Fd) (p x : AS) : Bool := decide (clo l x &&& p ≠ x) && decide (clo l x &&& p ≠ p)
def a3y (l : List Fd) (p : AS) : Option AS := (d3 p).find? (lh l p)
def aak (l : List Fd) (p x : AS) : Fd := ⟨x, (clo l x &&& p) &&& ~~~x⟩
def gq (l : List Fd) (p : AS) : Fd := match a3y l p with
 | some x => aak l p x
 | none => ⟨0, 0⟩
def bz (l : List Fd) (p : AS) : Bool := (a3y l p).isSome
theorem aac {α : Type} [Inhabited α] {q : α → Bool} {l : List α} {i : Nat} (hi : i < l.length) (hI : ∀ j, j < i → q (l.getD j default) = false) (h : q (l.getD i default) = true) : l.find? q = some (l.getD i default) := by
 rw [List.find?_eq_some_iff_getElem]
 refine ⟨h, i, hi, by simp [List.getD, hi], fun j hj => ?_⟩
 have := hI j hj
 rw [List.getD_eq_getElem?_getD, List.getElem?_eq_getElem (by omega), Option.getD_some] at this
 simp [this]
theorem a9v {α : Type} [Inhabited α] {q : α → Bool} {l : List α} (hI : ∀ j, j < l.length → q (l.getD j default) = false) : l.find? q = none := by
 rw [List.find?_eq_none]
 intro x hx
 obtain ⟨j, hj, rfl⟩ := List.getElem_of_mem hx
 have := hI j hj
 rw [List.getD_eq_getElem?_getD, List.getElem?_eq_getElem hj, Option.getD_some] at this
 simp [this]
theorem ab0 {l : List Fd} {p : AS} {i : Nat} (hi : i < (d3 p).length) (hI : ∀ j, j < i → lh l p ((d3 p).getD j default) = false) (h : lh l p ((d3 p).getD i default) = true) : gq l p = aak l p ((d3 p).getD i default) ∧ bz l p = true := by
 have e : a3y l p = some ((d3 p).getD i default) := aac hi hI h
 unfold gq bz
 rw [e]
 exact ⟨rfl, rfl⟩
theorem ab1 {l : List Fd} {p : AS} (hI : ∀ j, j < (d3 p).length → lh l p ((d3 p).getD j default) = false) : gq l p = ⟨0, 0⟩ ∧ bz l p = false := by
 have e : a3y l p = none := a9v hI
 unfold gq bz
 rw [e]
 exact ⟨rfl, rfl⟩
theorem a4r {l : List Fd} {p x : AS} (h : da .and .u32 (asI (clo l x)) (asI p) = asI x) : lh l p x = false := by
 rw [oq, d4] at h
 unfold lh
 simp [h]
theorem a48 {l : List Fd} {p x : AS} (h : da .and .u32 (asI (clo l x)) (asI p) = asI p) : lh l p x = false := by
 rw [oq, d4] at h
 unfold lh
 simp [h]
theorem a47 {l : List Fd} {p x : AS} (h : ¬ da .and .u32 (asI (clo l x)) (asI p) = asI x) (k : ¬ da .and .u32 (asI (clo l x)) (asI p) = asI p) : lh l p x = true := by
 rw [oq, d4] at h k
 unfold lh
 simp [h, k]
theorem adg {l : List Fd} {p : AS} {i : Nat} {a b : PV} (hi : i < (d3 p).length) (hI : ∀ j, j < i → lh l p ((d3 p).getD j default) = false) (h : lh l p ((d3 p).getD i default) = true) (ha : a = asC ((d3 p).getD i default)) (hb : b = .raw (.int .u32 (da .andNot .u32 (da .and .u32 (asI (clo l ((d3 p).getD i default))) (asI p)) (asI ((d3 p).getD i default))))) : CoC (.agg [a, b]) (gq l p).pc :=
 CoC.of_eq (by rw [(ab0 hi hI h).1, ha, hb, oq, a3n]; rfl)
theorem aav {l : List Fd} {p : AS} (hI : ∀ j, j < (d3 p).length → lh l p ((d3 p).getD j default) = false) : CoC (.agg [jf (.int .u32 0), jf (.int .u32 0)]) (gq l p).pc := CoC.of_eq (by rw [(ab1 hI).1]; rfl)
theorem a7s {s : AS} : ∀ (n : Nat) (x : AS), (y7 s n x).length ≤ x.toNat + 1
 | 0, x => Nat.zero_le _
 | n + 1, x => by
  unfold y7
  by_cases h0 : x = 0
  · rw [if_pos h0]; simp
  · rw [if_neg h0, List.length_cons]
    have h1 := a7s (s := s) n ((x - 1) &&& s)
    have h2 := s5 (s := s) h0
    omega
theorem a0d (s : AS) : (d3 s).length ≤ 4294967296 := by
 unfold d3 tz
 have h1 := a7s (s := s) (s.toNat + 1) s
 have h2 := vi (y7 s (s.toNat + 1) s)
 have h3 := s.isLt
 split
 · simp
 · omega
end Go.Hx
end
