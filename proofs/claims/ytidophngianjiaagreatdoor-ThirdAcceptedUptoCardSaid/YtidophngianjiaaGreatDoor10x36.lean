/- A part of the proof: V34 Cs36 Cz1m Cs37 Cs38 V35 Cs40 Cs42 Ls2 Ls3 Ls5 W0. -/
import Derived.Test.YtidophngianjiaaGreatDoor10x22
import Derived.Test.YtidophngianjiaaGreatDoor10x30
import Derived.Test.YtidophngianjiaaGreatDoor10x32
import Derived.Test.YtidophngianjiaaGreatDoor10x33
import Derived.Test.YtidophngianjiaaGreatDoor10x35
set_option linter.all false
section
namespace Go.Hx
open Go.Proofs
set_option maxRecDepth 100000
theorem axf : goodFn Tryz.prog 137 := ⟨Tryz.f137, Tryz.func137, by kernel_rfl, by kernel_rfl⟩
theorem ayl : goodFn Tryz.prog 87 := ⟨Tryz.f87, Tryz.func87, by kernel_rfl, by kernel_rfl⟩
theorem axq (hM : ∀ k : List Fd, k.length ≤ 16777216 → ah Tryz.prog 137 [pP (fdl k)] (ap [pP (fdl (ow k))])) (n : Int) (l : List Fd) : ah Tryz.prog 87 [pI n, pP (fdl l)] (ap [pP (fdl (ez n l)), pI (av n l)]) := by
 refine ag (nt := 17) af Tryz.func87 rfl rfl l9 ?_; refine sx7 ?_; (iterate 2 refine qy ?_); refine a6 ?_; refine sx7 ?_; (iterate 2 refine qy ?_)
 refine rc rfl rfl rfl rfl rfl rfl afc (as3 n l) (CoL.refl _) rfl rfl ?_; (iterate 5 refine qy ?_); refine a6 ?_; refine a7 ?_
 have hml := a3t n l
 refine gy ?_; refine qy ?_; refine rc rfl rfl rfl rfl rfl rfl axf (hM (gt n l) (by omega)) (CoL.refl _) rfl rfl ?_; (iterate 3 refine qy ?_); refine a6 ?_
 exact hx8 rfl rfl rfl (CoL.refl _)
theorem amc : goodFn Tryz.prog 43 := ⟨Tryz.f43, Tryz.func43, by kernel_rfl, by kernel_rfl⟩
theorem afx (hM : ∀ k : List Fd, k.length ≤ 16777216 → ah Tryz.prog 137 [pP (fdl k)] (ap [pP (fdl (ow k))])) (n : Int) (l : List Fd) : ah Tryz.prog 43 [pI n, pP (fdl l)] (ap [pP (asl (ja n l)), pI (av n l)]) := by
 refine ag (nt := 66) af Tryz.func43 rfl rfl l9 ?_; refine sx7 ?_; (iterate 2 refine qy ?_); refine a6 ?_; refine sx7 ?_; (iterate 2 refine qy ?_)
 refine rc rfl rfl rfl rfl rfl rfl ayl (axq hM n l) (CoL.refl _) rfl rfl ?_; (iterate 5 refine qy ?_); refine a6 ?_; refine a7 ?_; refine sx7 ?_; (iterate 2 refine qy ?_); refine a6 ?_
 refine a8 _ rfl (fun r0 => ?_) (fun r0 => ?_)
 ·
  have h0 := r0
  have h0 := of_decide_eq_false (ax h0)
  try simp only [ty] at h0
  refine sx7 ?_; (iterate 3 refine qy ?_); refine a6 ?_
  exact hx8 rfl rfl rfl (⟨CoC.one (b0j (ayv h0)), CoC.refl _, trivial⟩)
 ·
  have h0 := r0
  have h0 := of_decide_eq_true (aw h0)
  try simp only [ty] at h0
  refine aa ?_; refine a7 ?_
  have hv := cr h0
  have hcl := acu n l
  have hsl := aqu n l
  refine gy ?_; refine qy ?_; refine a6 ?_; refine sx7 ?_; refine qy ?_; refine a6 ?_; refine a7 ?_; refine sx7 ?_; (iterate 3 refine qy ?_); refine a6 ?_; refine ae ?_
  refine dp 8 900 true 1 38 (lf sC []) (by decide) rfl (CoP.sl rfl (.inr rfl) (fun h => h) (fun i j hi _ => absurd hi (Nat.not_lt_zero i))) (.inr rfl) rfl ?_
  refine ai (ι := Nat) ⟨[(0, some _), (1, some _), (24, some _), (25, some _)], []⟩ ⟨⟨c9, c9, c9, c9, trivial⟩, trivial⟩ (fun i => ⟨[(8, some (.v (.one (.ref 900 (((ez n l).take i).map pt).length)))), (9, some (vB (jv n l i))), (26, some (vI i))], [(900, some (.arr true 1 38 (((ez n l).take i).map pt).length (lf sC (((ez n l).take i).map pt))))]⟩) (fun i => i ≤ (ez n l).length) (fun i => (ez n l).length - i) (0) (Nat.zero_le _) ⟨⟨zy, ⟨_, rfl, (cob rfl)⟩, zy, trivial⟩, ⟨u9, trivial⟩⟩ ?_
  rintro i hi
  have hlen : (((ez n l).take i).map pt).length ≤ i := by rw [List.length_map, List.length_take]; omega
  refine sx7 ?_; refine qy ?_; refine a6 ?_; refine a7 ?_; refine a8 _ rfl (fun r1 => ?_) (fun r1 => ?_)
  ·
   have h1 := of_decide_eq_true r1
   try simp only [ty] at h1
   refine aa ?_; refine a7 ?_; refine ae ?_; refine sx7 ?_; (iterate 2 refine qy ?_); refine m9 0 ?_; refine s9 ?_; refine a6 ?_; refine sx7 ?_; (iterate 6 refine qy ?_); refine a6 ?_; refine sx7 ?_
   (iterate 2 refine qy ?_); refine m9 1 ?_; refine ra 2 true rfl rfl rfl rfl rfl rfl ?_; refine qy ?_; refine a6 ?_; refine gy ?_; (iterate 2 refine qy ?_); refine bc rfl rfl (fun r2 => ?_) (fun r2 => ?_)
   ·
    have h2 := r2
    (iterate 4 refine k9 (gtf r2) ?_); refine rq rfl rfl rfl rfl rfl ?_ (hp := r2); refine qy ?_; refine a6 ?_; refine gy ?_; (iterate 2 refine qy ?_); refine a6 ?_; refine ⟨i + 1, ?_, ?_, ?_⟩
    · show i + 1 ≤ _; omega
    · first | omega | (dsimp only; omega)
    · exact ⟨⟨⟨_, rfl, (dc (vm (by omega)))⟩, ⟨_, rfl, (cob (by first | exact arq (n := n) (l := l) (i := i) (by omega) (by assumption) | exact ash (n := n) (l := l) (i := i) (by omega) (by assumption) | exact arj (n := n) (l := l) (i := i) (by omega)))⟩, zy, c9, c9, c9, c9, trivial⟩, ⟨⟨_, rfl, (ew (vm (by omega)) (CoP.of_eq (congrArg (fun z => PV.raw (.int .u32 z)) (bOr _ _))))⟩, trivial⟩⟩
   ·
    have h2 := r2
    (iterate 3 refine qy ?_ (hg := (gff r2))); refine rc rfl rfl rfl rfl rfl rfl aay (aio n l (pt ((ez n l).getD i default))) (⟨CoC.refl _, CoC.refl _, cci (bOr _ _), trivial⟩) rfl (gff r2) ?_; (iterate 2 refine qy ?_)
    refine a6 ?_; refine gy ?_; (iterate 2 refine qy ?_); refine a6 ?_; refine ⟨i + 1, ?_, ?_, ?_⟩
    · show i + 1 ≤ _; omega
    · first | omega | (dsimp only; omega)
    · exact ⟨⟨⟨_, rfl, (dc (vm (by omega)))⟩, ⟨_, rfl, (cob (by first | exact arq (n := n) (l := l) (i := i) (by omega) (by assumption) | exact ash (n := n) (l := l) (i := i) (by omega) (by assumption) | exact arj (n := n) (l := l) (i := i) (by omega)))⟩, zy, c9, c9, c9, c9, trivial⟩, ⟨⟨_, rfl, (ew (vm (by omega)) (CoP.of_eq (congrArg (fun z => PV.raw (.int .u32 z)) (bOr _ _))))⟩, trivial⟩⟩
  ·
   have h1 := of_decide_eq_false r1
   try simp only [ty] at h1
   obtain rfl : i = (ez n l).length := by omega
   refine ak ?_
   refine dg (ι := Unit) ⟨[], []⟩ ⟨trivial, trivial⟩ (fun _i => ⟨[(8, some (.v (.one (.ref 900 (jx n l).length))))], [(900, some (.arr true 1 38 (jx n l).length (lf sC (jx n l))))]⟩) (fun _i => True) ?_ ?_
   ·
    refine sx7 ?_; (iterate 2 refine qy ?_); refine a6 ?_; refine a8 _ rfl (fun r3 => ?_) (fun r3 => ?_)
    ·
     have h3 := r3
     have h3 := ax h3
     refine sx7 ?_; (iterate 3 refine qy ?_); refine rc rfl rfl rfl rfl rfl rfl amg (aj8 n hv.1 hv.2.1) (CoL.refl _) rfl rfl ?_; refine rc rfl rfl rfl rfl rfl rfl azn (at9 n l (aq n)) (CoL.refl _) rfl rfl ?_
     (iterate 5 refine qy ?_); refine a6 ?_; refine a7 ?_; refine sx7 ?_; (iterate 2 refine qy ?_); refine a6 ?_; refine a8 _ rfl (fun r4 => ?_) (fun r4 => ?_)
     ·
      have h4 := r4
      have h4 := of_decide_eq_false (ax h4)
      try simp only [ty] at h4
      exfalso
      exact h4 (ata h0)
     ·
      have h4 := r4
      have h4 := of_decide_eq_true (aw h4)
      try simp only [ty] at h4
      refine aa ?_; refine gy ?_; (iterate 2 refine qy ?_); refine m9 3 ?_; refine ra 4 true rfl rfl rfl rfl rfl rfl ?_; refine qy ?_; refine a6 ?_; refine ⟨(), ?_, ?_⟩
      · trivial
      · exact ⟨⟨⟨_, rfl, (by first | exact u6 (by rw [w7 (by assumption)]) | exact u6 (by rw [a5c (by assumption), List.length_append]; rfl))⟩, trivial⟩, ⟨⟨_, rfl, (by first | exact iu (w7 (by assumption)) (by rw [w7 (by assumption)]) | exact ew (a5c (by assumption)) (CoP.refl _))⟩, trivial⟩⟩
    ·
     have h3 := r3
     have h3 := aw h3
     refine aa ?_; refine ⟨(), ?_, ?_⟩
     · trivial
     · exact ⟨⟨⟨_, rfl, (by first | exact u6 (by rw [w7 (by assumption)]) | exact u6 (by rw [a5c (by assumption), List.length_append]; rfl))⟩, trivial⟩, ⟨⟨_, rfl, (by first | exact iu (w7 (by assumption)) (by rw [w7 (by assumption)]) | exact ew (a5c (by assumption)) (CoP.refl _))⟩, trivial⟩⟩
   · rintro _ _
     refine a7 ?_; refine br 8 rfl rfl rfl ?_; refine gy ?_; refine qy ?_; refine rc rfl rfl rfl rfl rfl rfl ayc (aqz (jx n l) (by omega)) (CoL.refl _) rfl rfl ?_; (iterate 2 refine qy ?_); refine a6 ?_
     exact hx8 rfl rfl rfl (⟨CoC.one (CoP.of_eq (by rw [wk h0]; rfl)), cci h0.symm, trivial⟩)
end Go.Hx
end
section
namespace Go.Hx
def Eqv (l k : List Fd) : Prop := ∀ s, l5 l s ↔ l5 k s
theorem Eqv.refl (l : List Fd) : Eqv l l := fun s => Iff.rfl
theorem Eqv.trans {a b c : List Fd} (h : Eqv a b) (k : Eqv b c) : Eqv a c := fun s => (h s).trans (k s)
theorem Eqv.clo {l k : List Fd} (h : Eqv l k) (s : AS) : clo l s = clo k s :=
 df (gu ((h _).2 ey) j5) (gu ((h _).1 ey) j5)
theorem a6g {l k : List Fd} (h : ∀ f, f ∈ l ↔ f ∈ k) : Eqv l k := fun s => ⟨fun hs f hf => hs f ((h f).2 hf), fun hs f hf => hs f ((h f).1 hf)⟩
theorem a8n (l : List Fd) : Eqv l (er l) := fun s => by
 constructor
 · intro hs g hg hgs
   unfold er at hg
   obtain ⟨ys, hys, hxy⟩ := List.mem_flatten.1 hg
   obtain ⟨f, hf, rfl⟩ := List.mem_map.1 hys
   unfold kx at hxy
   obtain ⟨a, ha, rfl⟩ := List.mem_map.1 hxy
   have hr := hs f hf hgs
   refine az.2 fun i hi hb => ?_
   have h1 : ((1 : AS) <<< a).getLsbD i = decide (i = a) := eg a i hi
   rw [show (⟨f.lhs, (1 : AS) <<< a⟩ : Fd).rhs.getLsbD i = decide (i = a) from h1, decide_eq_true_iff] at hb
   subst hb
   have hm := (ip.1 ha).2
   rw [BitVec.getLsbD_and, Bool.and_eq_true] at hm
   exact az.1 hr i hi hm.1
 · intro hs f hf hfs
   refine az.2 fun i hi hb => ?_
   by_cases hl : f.lhs.getLsbD i = true
   · exact az.1 hfs i hi hl
   · have hg : (⟨f.lhs, (1 : AS) <<< i⟩ : Fd) ∈ er l := by
      unfold er
      refine List.mem_flatten.2 ⟨kx f, List.mem_map.2 ⟨f, hf, rfl⟩, ?_⟩
      unfold kx
      refine List.mem_map.2 ⟨i, ip.2 ⟨hi, ?_⟩, rfl⟩
      rw [BitVec.getLsbD_and, BitVec.getLsbD_not, decide_eq_true hi, hb]
      cases hq : f.lhs.getLsbD i with
      | true => exact absurd hq hl
      | false => rfl
     have h1 : ((1 : AS) <<< i).getLsbD i = decide (i = i) := eg i i hi
     exact az.1 (hs _ hg hfs) i hi (h1.trans (decide_eq_true rfl))
theorem a5d {l : List Fd} {f : Fd} (h : imp l f = true) {s : AS} (hs : l5 l s) (hf : sub f.lhs s) : sub f.rhs s :=
 b6 (of_decide_eq_true h) (gu hs hf)
theorem av6 {l : List Fd} {i : Nat} {g : Fd} (hg : imp l g = true) (h1 : sub g.lhs (l.getD i default).lhs) (h2 : g.rhs = (l.getD i default).rhs) : Eqv l (l.set i g) := fun s => by
 constructor
 · intro hs f hf hfs
   rcases List.mem_or_eq_of_mem_set hf with hf | rfl
   · exact hs f hf hfs
   · exact a5d hg hs hfs
 · intro hs f hf hfs
   obtain ⟨j, hj, rfl⟩ := List.getElem_of_mem hf
   by_cases e : i = j
   · subst e
     have hm : g ∈ l.set i g := List.mem_iff_getElem.2 ⟨i, by rw [List.length_set]; exact hj, by simp⟩
     rw [List.getD_eq_getElem?_getD, List.getElem?_eq_getElem hj, Option.getD_some] at h1 h2
     have := hs g hm (b6 h1 hfs)
     rwa [h2] at this
   · have hm : l[j] ∈ l.set i g := List.mem_iff_getElem.2 ⟨j, by rw [List.length_set]; exact hj, by rw [List.getElem_set_ne e]⟩
     exact hs _ hm hfs
theorem acg {i a : Nat} {l : List Fd} : Eqv l (dt i l a) := by
 unfold dt
 split
 · rename_i hc
   rw [Bool.and_eq_true] at hc
   exact av6 hc.2 d8 rfl
 · exact Eqv.refl l
theorem a9a {i : Nat} : ∀ (m : List Nat) (l : List Fd), Eqv l (m.foldl (dt i) l)
 | [], l => Eqv.refl l
 | a :: m, l => acg.trans (a9a m _)
theorem a3s (l : List Fd) : ∀ i, Eqv l (gi l i)
 | 0 => Eqv.refl l
 | i + 1 => by rw [nq]; exact (a3s l i).trans (a9a _ _)
theorem aii {l : List Fd} {i : Nat} (h : nc l i = true) : Eqv l (ck l i) := fun s => by
 constructor
 · intro hs f hf
   exact hs f (vo hf)
 · intro hs f hf hfs
   obtain ⟨j, hj, rfl⟩ := List.getElem_of_mem hf
   by_cases e : j = i
   · subst e
     unfold nc at h
     rw [List.getD_eq_getElem?_getD, List.getElem?_eq_getElem hj, Option.getD_some] at h
     exact a5d h hs hfs
   · refine hs _ ?_ hfs
     unfold ck
     rw [List.mem_append]
     by_cases h2 : j < i
     · exact .inl (List.mem_take_iff_getElem.2 ⟨j, by omega, rfl⟩)
     · exact .inr (List.mem_drop_iff_getElem.2 ⟨j - (i + 1), by omega, by congr 1; omega⟩)
theorem yx : ∀ (f : Nat) (l : List Fd) (i : Nat), Eqv l (gw f l i)
 | 0, l, i => Eqv.refl l
 | f + 1, l, i => by
  unfold gw
  split
  · split
    · rename_i h; exact (aii h).trans (yx f _ _)
    · exact yx f _ _
  · exact Eqv.refl l
theorem avk (l : List Fd) : Eqv l (jq l) := by
 refine Eqv.trans ?_ (yx _ _ _)
 unfold u5
 refine Eqv.trans ?_ (a6g fun f => ir.symm); refine Eqv.trans ?_ (a3s _ _)
 unfold spl
 exact (a8n l).trans (a6g fun f => ir.symm)
theorem mc (l : List Fd) (s : AS) : clo (jq l) s = clo l s := ((avk l).clo s).symm
end Go.Hx
end
section
namespace Go.Hx
def a5x (l : List Fd) (ps : List AS) (t : AS) : Prop := ∀ p ∈ ps, sub (clo l (t &&& p) &&& p) t
theorem aso {l : List Fd} {z p : AS} : gp l z p = false ↔ sub (clo l (z &&& p) &&& p) z := by
 unfold gp mz sub
 rw [decide_eq_false_iff_not, Decidable.not_not, BitVec.and_comm p]
theorem acp {a b c : AS} (h : sub a b) : sub (a &&& c) (b &&& c) := kc (b6 d8 h) kn
theorem ac5 {l : List Fd} {ps : List AS} : ∀ (n : Nat) (z : AS), 4294967296 < n + z.toNat → a5x l ps (om l ps n z)
 | 0, z, h => by have := z.isLt; omega
 | n + 1, z, h => by
  unfold om
  cases hf : ps.find? (gp l z) with
  | none =>
   intro p hp
   have := List.find?_eq_none.1 hf p hp
   exact aso.1 (by simpa using this)
  | some p =>
   have hm := List.find?_some hf
   have := abb hm
   exact ac5 n _ (by omega)
theorem ag0 {l : List Fd} {ps : List AS} : ∀ (n : Nat) (z : AS), sub z (om l ps n z)
 | 0, z => dh z
 | n + 1, z => by
  unfold om
  cases hf : ps.find? (gp l z) with
  | none => exact dh z
  | some p => exact b6 nf (ag0 n _)
theorem aet {l : List Fd} {ps : List AS} {t : AS} (ht : a5x l ps t) : ∀ (n : Nat) (z : AS), sub z t → sub (om l ps n z) t
 | 0, z, h => h
 | n + 1, z, h => by
  unfold om
  cases hf : ps.find? (gp l z) with
  | none => exact h
  | some p =>
   refine aet ht n _ (qg h ?_)
   have hp := List.mem_of_find?_eq_some hf
   refine b6 ?_ (ht p hp)
   unfold mz
   refine b6 d8 ?_
   rw [BitVec.and_comm]
   exact acp (jo (acp h))
theorem xv (l : List Fd) (ps : List AS) (z : AS) : a5x l ps (k6 l ps z) := ac5 _ _ (by have := z.isLt; omega)
theorem wn {l : List Fd} {ps : List AS} {z : AS} : sub z (k6 l ps z) := ag0 _ _
theorem a6t {l : List Fd} {ps : List AS} {z t : AS} (ht : a5x l ps t) (h : sub z t) : sub (k6 l ps z) t := aet ht _ _ h
def b1g (l : List Fd) (s p : AS) : AS := s ||| (clo l (s &&& p) &&& p)
def b39 (l : List Fd) (ps : List AS) (s : AS) : AS := ps.foldl (b1g l) s
def PrI (l : List Fd) (ps : List AS) (z s : AS) : Prop := sub z s ∧ sub s (k6 l ps z)
theorem am4 {l : List Fd} {ps : List AS} {z : AS} : k6 l ps (k6 l ps z) = k6 l ps z := df (a6t (xv l ps z) (dh _)) wn
theorem am6 {l : List Fd} {ps : List AS} {a b : AS} (h : sub a b) : sub (k6 l ps a) (k6 l ps b) := a6t (xv l ps b) (b6 h wn)
theorem aaz {l m : List Fd} {ps : List AS} (h : ∀ f ∈ m, jw l ps f = true) (s : AS) : sub (clo m s) (k6 l ps s) := by
 refine gu (fun f hf hfs => ?_) wn
 have h1 : sub f.rhs (k6 l ps f.lhs) := of_decide_eq_true (h f hf)
 refine b6 h1 ?_
 have := am6 (l := l) (ps := ps) hfs
 rw [am4] at this
 exact this
theorem a9l {l m k : List Fd} {ps : List AS} (h : ∀ f ∈ m, jw l ps f = true) (he : ∀ s, clo k s = clo m s) : ∀ f ∈ k, jw l ps f = true := fun f hf => by
 refine decide_eq_true ?_; refine b6 ?_ (aaz h f.lhs)
 rw [← he]
 exact ey f hf j5
theorem a49 {l : List Fd} {ps : List AS} : fv l ps = true ↔ ∀ f ∈ l, jw l ps f = true := by
 unfold fv
 rw [List.all_eq_true]
 constructor
 · intro h f hf
   obtain ⟨j, hj, rfl⟩ := List.getElem_of_mem hf
   have := h j (List.mem_range.2 hj)
   rwa [List.getD_eq_getElem?_getD, List.getElem?_eq_getElem hj] at this
 · intro h j hj
   have hj := List.mem_range.1 hj
   rw [List.getD_eq_getElem?_getD, List.getElem?_eq_getElem hj]
   exact h _ (List.getElem_mem hj)
theorem aqa {l : List Fd} {ps : List AS} : fv l ps = true ↔ ∀ f ∈ jq l, jw l ps f = true := by
 rw [a49]
 exact ⟨fun h => a9l h (fun s => mc l s), fun h => a9l h (fun s => (mc l s).symm)⟩
def b3v (n : Int) (l : List Fd) (i : Nat) : List AS := ((aho (aq n)).take i).filter fun s => !rt l s
end Go.Hx
end
section
namespace Go.Hx
def b3a (l : List Fd) : Prop := ∀ f ∈ l, ∀ i, i < 32 → f.rhs.getLsbD i = true → f.lhs.getLsbD i = false
section
variable {n : Int} {l : List Fd}
end
end Go.Hx
end
section
namespace Go.Hx
open Go.Proofs
set_option maxRecDepth 100000
theorem a1i : uw 4 i9 = i9 ∧ av 4 i9 = 0 := by decide +kernel
theorem awn : ja 4 i9 = [3, 6, 9] := by decide +kernel
theorem atb : a6q 4 i9 = false := by decide +kernel
theorem ala : (decide (av 3 a1p = 0) && decide (uw 3 a1p = [])) = true ∧ av 3 a1p = 0 := by decide +kernel
theorem az9 : ah Tryz.prog 77 [pI 4, pP (fdl i9)] (ap [pP (fdl i9), pI 0]) := by
 have h := ame 4 i9
 rw [a1i.1, a1i.2] at h
 exact h
theorem au3 (hM : ∀ k : List Fd, k.length ≤ 16777216 → ah Tryz.prog 137 [pP (fdl k)] (ap [pP (fdl (ow k))])) : ah Tryz.prog 43 [pI 4, pP (fdl i9)] (ap [pP (asl [3, 6, 9]), pI 0]) := by
 have h := afx hM 4 i9
 rw [awn, a1i.2] at h
 exact h
theorem apz : ah Tryz.prog 78 [pI 4, pP (fdl i9)] (ap [pB false, pI 0]) := by
 have h := apc 4 i9
 rw [atb, a1i.2] at h
 exact h
theorem b33 : ah Tryz.prog 79 [pI 3, pP (fdl a1p)] (ap [pB true, pI 0]) := by
 have h := b2w 3 a1p
 rw [ala.1, ala.2] at h
 exact h
theorem ay2 : ah Tryz.prog 80 [pP (fdl i9), pP (fdl i9)] (ap [pB true]) := by
 have h := azw i9 i9
 rw [decide_eq_true rfl] at h
 exact h
theorem arb : ah Tryz.prog 32 [pP (asl [3, 6, 9]), pP (asl [3, 6, 9])] (ap [pB true]) := by
 have h := ay6 [3, 6, 9] [3, 6, 9]
 rw [decide_eq_true rfl] at h
 exact h
theorem aqo {α : Type} [Inhabited α] {wr wr' : Bool} {e : TypeId} {c : α → Nat → PV} {x y z : α} {f : Nat → Nat → PV} (h0 : CoP (f 0 0) (c x 0)) (h1 : CoP (f 1 0) (c y 0)) (h2 : CoP (f 2 0) (c z 0)) (hw : wr' = true → wr = true := by exact fun h => h) : CoO (.arr wr 1 e 3 f) (.arr wr' 1 e 3 (lf c [x, y, z])) :=
 ⟨hw, rfl, rfl, rfl, fun i j hi hj => by
  have hi : i < 3 := hi
  have hj : j < 1 := hj
  obtain rfl : j = 0 := by omega
  rcases (by omega : i = 0 ∨ i = 1 ∨ i = 2) with rfl | rfl | rfl
  · exact h0
  · exact h1
  · exact h2⟩
theorem awc {wr wr' : Bool} {e : TypeId} {x y : Fd} {f : Nat → Nat → PV} (h0 : CoP (f 0 0) (x.c 0)) (h1 : CoP (f 0 1) (x.c 1)) (h2 : CoP (f 1 0) (y.c 0)) (h3 : CoP (f 1 1) (y.c 1)) (hw : wr' = true → wr = true := by exact fun h => h) : CoO (.arr wr 2 e 2 f) (.arr wr' 2 e 2 (lf Fd.c [x, y])) :=
 ⟨hw, rfl, rfl, rfl, fun i j hi hj => by
  have hi : i < 2 := hi
  have hj : j < 2 := hj
  rcases (by omega : i = 0 ∨ i = 1) with rfl | rfl <;> rcases (by omega : j = 0 ∨ j = 1) with rfl | rfl
  · exact h0
  · exact h1
  · exact h2
  · exact h3⟩
end Go.Hx
end
section
namespace Go.Hx
open Go.Proofs
set_option maxRecDepth 100000
theorem amn : goodFn Tryz.prog 38 := ⟨Tryz.f38, Tryz.func38, by kernel_rfl, by kernel_rfl⟩
theorem aev (hM : ∀ k : List Fd, k.length ≤ 16777216 → ah Tryz.prog 137 [pP (fdl k)] (ap [pP (fdl (ow k))]))  : ah Tryz.prog 38 [] (ap [pB true]) := by
 refine ag (nt := 66) af Tryz.func38 rfl rfl l9 ?_; refine sx7 ?_; refine qy ?_; refine a6 ?_; refine sx7 ?_; (iterate 2 refine qy ?_); refine m9 0 ?_; refine qy ?_; refine a6 ?_; refine br 1 rfl rfl rfl ?_
 refine sx7 ?_; refine qy ?_; refine rc rfl rfl rfl rfl rfl rfl aln (az9) (⟨CoC.refl _, CoC.one (a5f (CoP.refl _) (CoP.refl _) (CoP.refl _) (CoP.refl _)), trivial⟩) rfl rfl ?_; (iterate 5 refine qy ?_); refine a6 ?_
 refine sx7 ?_; refine qy ?_; refine rc rfl rfl rfl rfl rfl rfl amc (au3 hM) (⟨CoC.refl _, CoC.one (a5f (CoP.refl _) (CoP.refl _) (CoP.refl _) (CoP.refl _)), trivial⟩) rfl rfl ?_; (iterate 5 refine qy ?_)
 refine a6 ?_; refine sx7 ?_; refine qy ?_; refine rc rfl rfl rfl rfl rfl rfl axo (apz) (⟨CoC.refl _, CoC.one (a5f (CoP.refl _) (CoP.refl _) (CoP.refl _) (CoP.refl _)), trivial⟩) rfl rfl ?_; (iterate 5 refine qy ?_)
 refine a6 ?_; refine sx7 ?_; (iterate 2 refine qy ?_); refine m9 1 ?_
 refine cz rfl rfl rfl rfl rfl rfl az3 (ah.eat (hcs := [.one (.p (.raw (.int .i64 3))), .one (.ref 1 2)]) (o1 := [(1, .arr true 2 40 2 (lf Fd.c a1p))]) (b33) rfl (by (repeat' apply And.intro) <;> first | trivial | rfl) (CoL.refl _)) (fk.refl _) ⟨⟨_, rfl, (awc (CoP.refl _) (CoP.refl _) (CoP.refl _) (CoP.refl _))⟩, trivial⟩ rfl rfl ?_
 (iterate 5 refine qy ?_); refine a6 ?_; refine sx7 ?_; (iterate 7 refine qy ?_); (iterate 2 refine rq rfl rfl rfl rfl (gtt (bv rfl rfl)) ?_); (iterate 2 refine qy ?_)
 (iterate 2 refine rq rfl rfl rfl rfl (gtt (bv (bv rfl rfl) rfl)) ?_); (iterate 2 refine qy ?_); (iterate 2 refine rq rfl rfl rfl rfl (gtt (bv (bv (bv rfl rfl) rfl) rfl)) ?_)
 refine rc rfl rfl rfl rfl rfl rfl aze (ay2) (⟨CoC.refl _, CoC.one (a5f (CoP.refl _) (CoP.refl _) (CoP.refl _) (CoP.refl _)), trivial⟩) rfl (gtt (bv (bv (bv rfl rfl) rfl) rfl)) ?_; (iterate 2 refine qy ?_)
 refine rq rfl rfl rfl rfl (gtt (bv (bv (bv (bv rfl rfl) rfl) rfl) rfl)) ?_; refine rm 2 rfl rfl rfl rfl rfl (gtt (bv (bv (bv (bv rfl rfl) rfl) rfl) rfl)) ?_
 refine cz rfl rfl rfl rfl rfl rfl ayk (ah.eat (hcs := [.one (.p (asl [3, 6, 9])), .one (.ref 2 3)]) (o1 := [(2, .arr true 1 38 3 (lf sC [3, 6, 9]))]) (arb) rfl (by (repeat' apply And.intro) <;> first | trivial | rfl) (CoL.refl _)) (fk.refl _) ⟨⟨_, rfl, (aqo (CoP.refl _) (CoP.refl _) (CoP.refl _))⟩, trivial⟩ rfl (gtt (bv (bv (bv (bv rfl rfl) rfl) rfl) rfl)) ?_
 (iterate 2 refine qy ?_); (iterate 2 refine rq rfl rfl rfl rfl (gtt (bv (bv (bv (bv (bv rfl rfl) rfl) rfl) rfl) rfl)) ?_); (iterate 2 refine qy ?_)
 refine rq rfl rfl rfl rfl (gtt (bv (bv (bv (bv (bv (bv rfl rfl) rfl) rfl) rfl) rfl) rfl)) ?_; (iterate 2 refine qy ?_); refine a6 ?_
 exact hx8 rfl rfl rfl (CoL.refl _)
end Go.Hx
end
section
namespace Go.Hx
open Go.Proofs
theorem a71 {ps : List AS} {k : AS} (h : k ∈ ps) : sub k (orL ps) := az.2 fun i hi hb => by
 unfold orL
 rw [sq, Bool.or_eq_true]
 exact .inr (List.any_eq_true.2 ⟨k, h, hb⟩)
section
variable {n : Int} {l : List Fd}
end
end Go.Hx
end
section
namespace Go.Hx
theorem xu {L : List AS} {x : AS} : x ∈ qz L ↔ x ∈ L ∧ ∀ y ∈ L, sub x y → x = y := by
 unfold qz aa2 a03
 rw [List.mem_filter, lw, Bool.not_eq_true', List.any_eq_false]
 constructor
 · rintro ⟨h1, h2⟩
   refine ⟨h1, fun y hy hs => Classical.byContradiction fun hne => h2 y (lw.2 hy) ?_⟩
   rw [Bool.and_eq_true, decide_eq_true_iff]
   exact ⟨hne, decide_eq_true hs⟩
 · rintro ⟨h1, h2⟩
   refine ⟨h1, fun y hy hc => ?_⟩
   rw [Bool.and_eq_true, decide_eq_true_iff] at hc
   exact hc.1 (h2 y (lw.1 hy) (of_decide_eq_true hc.2))
theorem a4o {L : List AS} : ∀ (n : Nat) (x : AS), x ∈ L → 4294967296 - x.toNat ≤ n → ∃ y ∈ qz L, sub x y
 | 0, x, _, h => by have := x.isLt; omega
 | n + 1, x, hx, h => by
  by_cases hm : x ∈ qz L
  · exact ⟨x, hm, dh x⟩
  · have : ∃ y ∈ L, sub x y ∧ x ≠ y := by
     apply Classical.byContradiction
     intro hn
     exact hm (xu.2 ⟨hx, fun y hy hs => Classical.byContradiction fun hne => hn ⟨y, hy, hs, hne⟩⟩)
    obtain ⟨y, hy, hs, hne⟩ := this
    have hlt := qf hs hne
    have hyl := y.isLt
    obtain ⟨z, hz, hyz⟩ := a4o n y hy (by omega)
    exact ⟨z, hz, b6 hs hyz⟩
theorem a7o {L : List AS} {x : AS} (h : x ∈ L) : ∃ y ∈ qz L, sub x y := a4o 4294967296 x h (by omega)
section
variable {n : Int} {l : List Fd}
theorem a91 (h : eo n l (aq n) = true) : ∀ k, eo n l (fq n l (aq n) k) = true
 | 0 => h
 | k + 1 => by
  rw [lv]
  unfold vv
  split
  · assumption
  · exact a91 h k
theorem a6p (h : av n l = 0) : eo n l (rkS n l (aq n)) = true := by
 rw [(ahq h (uo h)).1]
 exact a91 (uo h) _
theorem af9 (h : av n l = 0) : ∀ x ∈ jx n l, sub x (aq n) := fun x hx => by
 have hp : ∀ x ∈ pw n l, sub x (aq n) := fun x hx => by
  unfold pw at hx
  obtain ⟨f, hf, rfl⟩ := List.mem_map.1 hx
  unfold ez at hf
  rw [tc h] at hf
  obtain ⟨h1, h2⟩ := ay0 (aws h) (ana h) f hf
  exact qg h1 h2
 unfold jx at hx
 split at hx
 · exact hp x hx
 · rcases List.mem_append.1 hx with hx | hx
   · exact hp x hx
   · rw [List.mem_singleton] at hx
     subst hx
     exact (of_decide_eq_true (a6p h)).2.1
theorem acd (h : av n l = 0) : ∃ x ∈ jx n l, eo n l x = true := by
 unfold jx
 split
 · rename_i hs
   unfold jv at hs
   rw [List.take_length] at hs
   obtain ⟨f, hf, hk⟩ := List.any_eq_true.1 hs
   exact ⟨pt f, List.mem_map.2 ⟨f, hf, rfl⟩, hk⟩
 · exact ⟨_, List.mem_append.2 (.inr (List.mem_singleton.2 rfl)), a6p h⟩
theorem aap (h : av n l = 0) : ∃ x ∈ ja n l, eo n l x = true := by
 obtain ⟨x, hx, hk⟩ := acd h
 obtain ⟨y, hy, hs⟩ := a7o hx
 rw [wk h]
 refine ⟨y, hy, ?_⟩
 have hyf := af9 h y (xu.1 hy).1
 refine decide_eq_true ⟨h, hyf, df (sv h hyf) ?_⟩
 rw [← (of_decide_eq_true hk).2.2]
 exact jo hs
theorem a6l {k : List Fd} {s : AS} {f : Fd} (hf : f ∈ k) (hs : f.lhs = s) : sub f.rhs (mgR k s) := by
 have : ∀ (q : List Fd) (a : AS), (sub f.rhs a ∨ f ∈ q) → sub f.rhs (q.foldl (fun a f => a ||| f.rhs) a) := by
  intro q
  induction q with
  | nil => intro a h; rcases h with h | h; · exact h
           · cases h
  | cons g q ih =>
   intro a h
   refine ih _ ?_
   rcases h with h | h
   · exact .inl (b6 h nf)
   · rcases List.mem_cons.1 h with rfl | h
     · exact .inl n9
     · exact .inr h
 unfold mgR
 exact this _ 0 (.inr (List.mem_filter.2 ⟨hf, decide_eq_true hs⟩))
theorem ane (h : av n l = 0) {f : Fd} (hf : f ∈ jq l) : ∃ x ∈ jx n l, sub f.rhs x := by
 have hm : mgF (gt n l) f.lhs ∈ ez n l := by
  unfold ez ow
  rw [tc h]
  exact List.mem_map.2 ⟨f.lhs, lw.2 (List.mem_map.2 ⟨f, hf, rfl⟩), rfl⟩
 refine ⟨pt (mgF (gt n l) f.lhs), ?_, ?_⟩
 · have : pt (mgF (gt n l) f.lhs) ∈ pw n l := List.mem_map.2 ⟨_, hm, rfl⟩
   unfold jx
   split
   · exact this
   · exact List.mem_append.2 (.inl this)
 · unfold pt mgF
   refine b6 (a6l (k := gt n l) (by rw [tc h]; exact hf) rfl) n9
theorem ajr {L : List AS} {t : AS} (h : ∀ x ∈ L, sub x t) : sub (orL L) t := az.2 fun i hi hb => by
 unfold orL at hb
 rw [sq, Bool.or_eq_true] at hb
 rcases hb with hb | hb
 · simp at hb
 · obtain ⟨x, hx, hxb⟩ := List.any_eq_true.1 hb
   exact az.1 (h x hx) i hi hxb
theorem acl (h : av n l = 0) : orL (ja n l) = aq n := by
 rw [wk h]
 refine df (ajr fun x hx => af9 h x (xu.1 hx).1) ?_
 have hup : ∀ x ∈ jx n l, sub x (orL (aim n l)) := fun x hx => by
  obtain ⟨y, hy, hs⟩ := a7o hx
  exact b6 hs (a71 hy)
 obtain ⟨k, hk, hkk⟩ := acd h
 have hc : clo l k = aq n := (of_decide_eq_true hkk).2.2
 rw [← hc, ← mc]
 refine gu (fun f hf _ => ?_) (hup k hk)
 obtain ⟨x, hx, hs⟩ := ane h hf
 exact b6 hs (hup x hx)
end
end Go.Hx
end
section
namespace Go.Hx
def zt (E : Int → Int → Prop) (R : Rw → Prop) (s : AS) : Prop := ∃ r, R r ∧ ∀ i : Nat, i < r.length → cn s (i : Int) = true → E (r.getD i default) (i : Int)
section
variable {N : Nat} {p m : List Fd} {E : Int → Int → Prop} {R : Rw → Prop}
theorem ne {s t : AS} (h : sub s t) {i : Nat} (hi : cn s (i : Int) = true) : cn t (i : Int) = true := by
 by_cases hl : i < 32
 · rw [ff hl] at hi ⊢
   exact az.1 h i hl hi
 · rw [tn (by omega)] at hi
   cases hi
theorem apq (h : Mdl N p m E R) {a b : Rw} (ha : R a) (hb : R b) {f : Fd} (hf : f ∈ p) {s : AS} (hs : AgE E a b s) : AgE E a b (dn s f) := by
 unfold dn
 split
 · rename_i hl
   have h2 := h.fd hf ha hb fun i hi hh => hs i hi (ne hl hh)
   intro i hi hh
   rw [a6d, Bool.or_eq_true] at hh
   rcases hh with hh | hh
   · exact hs i hi hh
   · exact h2 i hi hh
 · exact hs
theorem a95 (h : Mdl N p m E R) {a b : Rw} (ha : R a) (hb : R b) : ∀ {q : List Fd} {s : AS}, (∀ f, f ∈ q → f ∈ p) → AgE E a b s → AgE E a b (cw q s)
 | [], s, _, hs => hs
 | f :: q, s, hq, hs => a95 h ha hb (q := q) (s := dn s f) (fun g hg => hq g (by simp [hg])) (apq h ha hb (hq f (by simp)) hs)
theorem aft (h : Mdl N p m E R) {a b : Rw} (ha : R a) (hb : R b) : ∀ {k : Nat} {s : AS}, AgE E a b s → AgE E a b (clF p k s)
 | 0, s, hs => hs
 | k + 1, s, hs => by
  unfold clF
  split
  · exact hs
  · exact aft h ha hb (a95 h ha hb (fun _ hf => hf) hs)
theorem av8 (h : Mdl N p m E R) {a b : Rw} (ha : R a) (hb : R b) {s : AS} (hs : AgE E a b s) : AgE E a b (clo p s) := aft h ha hb hs
theorem zt.mono {s t : AS} (h : zt E R t) (hs : sub s t) : zt E R s := by
 obtain ⟨r, h1, h2⟩ := h
 exact ⟨r, h1, fun i hi hh => h2 i hi (ne hs hh)⟩
theorem aqf (h : Mdl N p m E R) {r : Rw} (hr : R r) {z q c : AS} (hz : ∀ i : Nat, i < r.length → cn z (i : Int) = true → E (r.getD i default) (i : Int)) (hq : zt E R q) (hc1 : sub c (clo p (z &&& q))) (hc2 : sub c q) :
 ∀ i : Nat, i < r.length → cn (z ||| c) (i : Int) = true → E (r.getD i default) (i : Int) := by
 obtain ⟨b, hb, hbq⟩ := hq
 have hl : r.length = b.length := (h.len hr).trans (h.len hb).symm
 have hag : AgE E r b (z &&& q) := fun i hi hh => h.trans (hz i hi (ne d8 hh)) (h.symm (hbq i (by omega) (ne kn hh)))
 have hcl := av8 h hr hb hag
 intro i hi hh
 rw [a6d, Bool.or_eq_true] at hh
 rcases hh with hh | hh
 · exact hz i hi hh
 · exact h.trans (hcl i hi (ne hc1 hh)) (hbq i (by omega) (ne hc2 hh))
end
section
variable {n : Int} {p m : List Fd} {ps : List AS}
theorem aka (h0 : 0 ≤ n) {E : Int → Int → Prop} {R : Rw → Prop} (h : Mdl n.toNat p m E R) (hl : ∀ r, r ∈ bg n ps → R r) {q : AS} (hq : q ∈ ps) : zt E R q := by
 obtain ⟨i, hi, e⟩ := mw hq
 refine ⟨stR n i q, hl _ ?_, fun c hc hh => ?_⟩
 · unfold bg
   exact List.mem_map.2 ⟨i, List.mem_range.2 hi, by rw [e]⟩
 · rw [a0w] at hc
   rw [a52 hc]
   unfold stV
   rw [if_pos hh]
   exact h.refl _
theorem aos {c : Nat} (hc : c < n.toNat) : (cg n).getD c default = (c : Int) := by
 unfold cg
 rw [List.getD_eq_getElem?_getD, List.getElem?_map, List.getElem?_range hc]
 rfl
theorem aph {i : Nat} (h16 : n ≤ 16) (hi : i < n.toNat) : cn (aq n) (i : Int) = true := by
 rw [ff (by omega)]
 unfold aq
 rw [Nat.min_eq_left (by omega), jj _ _ (by omega)]
 exact decide_eq_true hi
theorem aj9 (h16 : n ≤ 16) {E : Int → Int → Prop} {R : Rw → Prop} (h : Mdl n.toNat p m E R) (hf : zt E R (aq n)) : R (cg n) := by
 obtain ⟨r, hr, hh⟩ := hf
 have hl := h.len hr
 refine h.cong hr (by rw [x3, hl]) fun i hi => ?_
 rw [aos (by omega)]
 exact hh i hi (aph h16 (by omega))
theorem ab8 {E : Int → Int → Prop} {R : Rw → Prop} (hm : Mdl n.toNat p m E R) (hq : ∀ q, q ∈ ps → zt E R q) {r : Rw} (hr : R r) : ∀ (f : Nat) {z : AS}, (∀ i : Nat, i < r.length → cn z (i : Int) = true → E (r.getD i default) (i : Int)) → ∀ i : Nat, i < r.length → cn (om p ps f z) (i : Int) = true → E (r.getD i default) (i : Int)
 | 0, z, hz => hz
 | f + 1, z, hz => by
  unfold om
  split
  · exact hz
  · rename_i q hqf
    refine ab8 hm hq hr f (aqf hm hr hz (hq q (List.mem_of_find?_eq_some hqf)) (c := mz p q z) ?_ ?_)
    · exact b6 d8 kn
    · exact b6 d8 d8
theorem a9p (h0 : 0 ≤ n) (h16 : n ≤ 16) {k : AS} (hk : k ∈ ps) (hkey : clo p k = aq n) (hpr : fv p ps = true) : LR n.toNat p m (bg n ps) (cg n) := fun E R hm hl => by
 have hq : ∀ q, q ∈ ps → zt E R q := fun q hq => aka h0 hm hl hq
 obtain ⟨r, hr, hrk⟩ := hq k hk
 refine aj9 h16 hm ⟨r, hr, fun i hi hh => ?_⟩
 have h1 : sub (clo p k) (k6 p ps k) := aaz (a49.1 hpr) k
 rw [hkey] at h1
 exact ab8 hm hq hr 4294967297 hrk i hi (ne h1 hh)
end
end Go.Hx
end
section
namespace Go.Hx
def lvE (n : Int) (ps : List AS) : Int := if n < 0 ∨ 8 < n then 7 else if 64 < ps.length then 3 else if ps.length = 0 ∨ ¬ orL ps = aq n then 1 else 0
section
variable {n : Int} {ps : List AS} {p m : List Fd}
theorem a9x (h : n < 0 ∨ 8 < n) : lvE n ps = 7 := if_pos h
theorem as0 (h : ¬ (n < 0 ∨ 8 < n)) (h2 : 64 < ps.length) : lvE n ps = 3 := by unfold lvE; rw [if_neg h, if_pos h2]
theorem aa3 (h : ¬ (n < 0 ∨ 8 < n)) (h2 : ¬ 64 < ps.length) (h3 : ps.length = 0 ∨ ¬ orL ps = aq n) : lvE n ps = 1 := by unfold lvE; rw [if_neg h, if_neg h2, if_pos h3]
theorem aha (h : ¬ (n < 0 ∨ 8 < n)) (h2 : ¬ 64 < ps.length) (h3 : ¬ (ps.length = 0 ∨ ¬ orL ps = aq n)) : lvE n ps = 0 := by unfold lvE; rw [if_neg h, if_neg h2, if_neg h3]
theorem kz (h : lvE n ps = 0) : 0 ≤ n ∧ n ≤ 8 ∧ ps.length ≤ 64 ∧ 0 < ps.length ∧ orL ps = aq n := by
 unfold lvE at h
 split at h
 · exact absurd h (by decide)
 · split at h
   · exact absurd h (by decide)
   · split at h
     · exact absurd h (by decide)
     · rename_i h1 h2 h3
       refine ⟨by omega, by omega, by omega, by omega, ?_⟩
       apply Classical.byContradiction
       intro e
       exact h3 (.inr e)
def lsT (n : Int) (ps : List AS) (p m : List Fd) : List St × (Int × List Rw) × Int := gj FU n (b4 (bg n ps)) p m
def lsC (n : Int) (ps : List AS) (p m : List Fd) : Int := if lvE n ps = 0 then (if cu n p m = 0 then (lsT n ps p m).2.2 else cu n p m) else lvE n ps
def lsB (n : Int) (ps : List AS) (p m : List Fd) : Bool := decide (lsC n ps p m = 0) && (lsT n ps p m).2.1.2.any fun r => decide (r = cg n)
theorem as2 (h : ¬ lvE n ps = 0) : lsC n ps p m = lvE n ps ∧ lsB n ps p m = false := by
 have e : lsC n ps p m = lvE n ps := if_neg h
 exact ⟨e, by unfold lsB; rw [e, decide_eq_false h]; rfl⟩
theorem b29 (h : lvE n ps = 0) (h2 : ¬ cu n p m = 0) : lsC n ps p m = cu n p m ∧ lsB n ps p m = false := by
 have e : lsC n ps p m = cu n p m := (if_pos h).trans (if_neg h2)
 exact ⟨e, by unfold lsB; rw [e, decide_eq_false h2]; rfl⟩
theorem aa4 (h : lvE n ps = 0) (h2 : cu n p m = 0) : lsC n ps p m = (lsT n ps p m).2.2 := (if_pos h).trans (if_pos h2)
theorem zh (h : lsC n ps p m = 0) : lvE n ps = 0 ∧ cu n p m = 0 := by
 unfold lsC at h
 split at h
 · rename_i e
   split at h
   · rename_i e2; exact ⟨e, e2⟩
   · rename_i e2; exact absurd h e2
 · rename_i e; exact absurd h e
theorem ad0 (h : lvE n ps = 0) {q : AS} (hq : q ∈ ps) : sub q (aq n) := by
 rw [← (kz h).2.2.2.2]
 exact a71 hq
theorem aad (h : lvE n ps = 0) : fc n ps = (n, b4 (bg n ps), 0) := by
 obtain ⟨h0, h8, h64, _⟩ := kz h
 exact a32 (by omega) (by omega) fun j hj => (ahv h0 (by omega)).1 (ad0 h (d7 hj))
theorem avv (h : lvE n ps = 0) (hb : cu n p [] = 0) : lsC n ps p [] = 0 ∧ (lsB n ps p [] = true ↔ LR n.toNat p [] (bg n ps) (cg n)) := by
 obtain ⟨h0, h8, h64, _⟩ := kz h
 rcases a08 (m := []) h64 hb with ⟨_, e⟩ | ⟨sts, lend, e, h1, _⟩
 · exact absurd rfl e
 · have ec : lsC n ps p [] = 0 := by rw [aa4 h hb]; unfold lsT; rw [e]
   refine ⟨ec, ?_⟩
   unfold lsB lsT
   rw [ec, e, decide_eq_true rfl, Bool.true_and]
   show (lend.any fun r => decide (r = cg n)) = true ↔ _
   rw [up, decide_eq_true_iff, h1]
theorem aqe (h : av n p = 0) : cu n p [] = 0 := (aaq (m := []) h (by simp) fun j hj => absurd hj (Nat.not_lt_zero j)).symm
theorem apj (h0 : 0 ≤ n) (h6 : n ≤ 6) (hd : ps.Nodup) (hs : ∀ q, q ∈ ps → sub q (aq n)) : ps.length ≤ 64 := by
 have hlt : ∀ q, q ∈ ps → q.toNat < 64 := fun q hq => by
  have h1 := a5a (hs q hq)
  have h2 : ∀ k, k ≤ 6 → (j7 k).toNat < 64 := by decide +kernel
  have h3 := h2 (min n.toNat 32) (by omega)
  have h4 : (aq n).toNat < 64 := h3
  omega
 have hn : (ps.map BitVec.toNat).Nodup := by
  refine List.Pairwise.map BitVec.toNat (fun a b hab e => ?_) hd
  exact hab (BitVec.eq_of_toNat_eq e)
 have := hn.length_le_of_subset (l₂ := List.range 64) fun x hx => by
  obtain ⟨q, hq, rfl⟩ := List.mem_map.1 hx
  exact List.mem_range.2 (hlt q hq)
 simpa using this
theorem b1m (h0 : 0 ≤ n) (h6 : n ≤ 6) (hd : ps.Nodup) (hs : ∀ q, q ∈ ps → sub q (aq n)) (hne : 0 < ps.length) (ho : sub (aq n) (orL ps)) : lvE n ps = 0 := by
 have h1 := apj h0 h6 hd hs
 have h2 : orL ps = aq n := df (ajr hs) ho
 exact aha (by omega) (by omega) fun e => by
  rcases e with e | e
  · omega
  · exact e h2
def b3s (n : Int) (p : List Fd) (ps : List AS) : Bool := lsB n ps p [] && !ps.any (rt p)
end
end Go.Hx
end
section
namespace Go.Hx
abbrev tbC (a : Int × List Rw) : Nat → PV := fun j => [.raw (.int .i64 a.1), rl a.2].getD j .any
def lcR (n : Int) (ps : List AS) (p m : List Fd) : (Int × List Rw) × List St × (Int × List Rw) × Int :=
 if lvE n ps = 0 then (if cu n p m = 0 then ((n, b4 (bg n ps)), (lsT n ps p m).1, (lsT n ps p m).2.1, (lsT n ps p m).2.2) else ((0, []), [], (0, []), cu n p m)) else ((0, []), [], (0, []), lvE n ps)
section
variable {n : Int} {ps : List AS} {p m : List Fd} {l lend : List Rw}
theorem b1l (h : ¬ lvE n ps = 0) : lcR n ps p m = ((0, []), [], (0, []), lvE n ps) := if_neg h
theorem b1s (h : lvE n ps = 0) (h2 : ¬ cu n p m = 0) : lcR n ps p m = ((0, []), [], (0, []), cu n p m) := (if_pos h).trans (if_neg h2)
theorem arl (h : lvE n ps = 0) (h2 : cu n p m = 0) : lcR n ps p m = ((n, b4 (bg n ps)), (lsT n ps p m).1, (lsT n ps p m).2.1, (lsT n ps p m).2.2) := (if_pos h).trans (if_pos h2)
theorem sy : (lcR n ps p m).2.2.2 = lsC n ps p m := by
 unfold lcR lsC
 split
 · split <;> rfl
 · rfl
theorem ara (h : (lcR n ps p m).2.2.2 = 0) : ((lcR n ps p m).2.2.1.2.any fun r => decide (r = cg n)) = lsB n ps p m := by
 have hc := h
 rw [sy] at hc
 obtain ⟨h1, h2⟩ := zh hc
 unfold lsB
 rw [decide_eq_true hc, Bool.true_and, arl h1 h2]
theorem ape (h : ¬ (lcR n ps p m).2.2.2 = 0) : lsB n ps p m = false := by
 rw [sy] at h
 unfold lsB
 rw [decide_eq_false h]
 rfl
theorem ayn : (bif decide ((lcR n ps p m).2.2.2 = 0) then ((lcR n ps p m).2.2.1.2.any fun r => decide (r = cg n)) else false) = lsB n ps p m := by
 by_cases h : (lcR n ps p m).2.2.2 = 0
 · rw [decide_eq_true h, cond_true, ara h]
 · rw [decide_eq_false h, cond_false, ape h]
theorem b2e (h : lcR n ps p m = lcR n ps p m) (h2 : (lcR n ps p m).2.2.2 = 0) : 0 ≤ n ∧ n ≤ 8 := by
 rw [sy] at h2
 obtain ⟨h1, _⟩ := zh h2
 exact ⟨(kz h1).1, (kz h1).2.1⟩
theorem asd : ∀ {sts : List St} {l : List Rw} {i : Nat}, TrZ n p m lend l sts → i ≤ sts.length → TrZ n p m lend ((trL n p m l sts).getD i default) (sts.drop i)
 | [], l, 0, h, _ => h
 | s :: r, l, 0, h, _ => h
 | s :: r, l, i + 1, h, hi => by
  obtain ⟨_, _, l', e, _, h⟩ := h
  unfold trL
  rw [e]
  exact asd (i := i) h (by simpa using hi)
theorem a79 : ∀ {sts : List St} {l : List Rw} {i : Nat}, i < sts.length → (trL n p m l sts).getD (i + 1) default = (dj n ((trL n p m l sts).getD i default) p m (sts.getD i default)).2.1
 | [], l, i, hi => by simp at hi
 | s :: r, l, 0, _ => by
  unfold trL
  cases r with
  | nil => rfl
  | cons s2 r2 => rfl
 | s :: r, l, i + 1, hi => by
  unfold trL
  exact a79 (sts := r) (i := i) (by simpa using hi)
theorem atj {sts : List St} : (trL n p m l sts).getD 0 default = l := by cases sts <;> rfl
def jg (n : Int) (p m : List Fd) (l : List Rw) (sts : List St) : List (Int × List Rw) := (trL n p m l sts).map fun t => (n, t)
theorem a44 {sts : List St} : (jg n p m l sts).length = sts.length + 1 := by unfold jg; rw [List.length_map, a83]
theorem auw {sts : List St} {i : Nat} (hi : i ≤ sts.length) : (jg n p m l sts).getD i default = (n, (trL n p m l sts).getD i default) := by
 unfold jg
 have : i < (trL n p m l sts).length := by rw [a83]; omega
 rw [List.getD_eq_getElem?_getD, List.getElem?_map, List.getElem?_eq_getElem this, List.getD_eq_getElem?_getD, List.getElem?_eq_getElem this]
 rfl
theorem a9h {sts : List St} {i : Nat} (hi : i < sts.length) : (jg n p m l sts).take (i + 1 + 1) = (jg n p m l sts).take (i + 1) ++ [(n, (dj n ((trL n p m l sts).getD i default) p m (sts.getD i default)).2.1)] := by
 rw [bt (by rw [a44]; omega), auw (by omega), a79 hi]
theorem abr {sts : List St} : (jg n p m l sts).take 1 = [(n, l)] := by
 unfold jg
 cases sts <;> rfl
def rcR (n : Int) (ps : List AS) (p m : List Fd) : List St × List (Int × List Rw) × Int :=
 if lsC n ps p m = 0 then ((lsT n ps p m).1, jg n p m (b4 (bg n ps)) (lsT n ps p m).1, 0) else ([], [], lsC n ps p m)
theorem ai3 {c : Int} (h : lsC n ps p m = c) (h2 : ¬ c = 0) : rcR n ps p m = ([], [], c) := by
 unfold rcR
 rw [h, if_neg h2]
theorem aa0 (h : lsC n ps p m = 0) : rcR n ps p m = ((lsT n ps p m).1, jg n p m (b4 (bg n ps)) (lsT n ps p m).1, 0) := if_pos h
theorem ais (h : lvE n ps = 0) (hb : cu n p m = 0) (hc : (lsT n ps p m).2.2 = 0) : ∃ sts lend, lsT n ps p m = (sts, (n, lend), 0) ∧ TrZ n p m lend (b4 (bg n ps)) sts ∧ tok n lend = true ∧ ((∃ t, t ∈ trL n p m (b4 (bg n ps)) sts ∧ cg n ∈ t) ↔ cg n ∈ lend) := by
 rcases a08 (kz h).2.2.1 hb with ⟨e, _⟩ | ⟨sts, lend, e, h1, h2, h3, h4⟩
 · unfold lsT at hc
   rw [e] at hc
   exact absurd hc (by decide)
 · exact ⟨sts, lend, e, h2, h3, h4⟩
theorem aje {p m : List Fd} : ∀ (F : Nat) (n : Int) (l : List Rw) (acc : List St), (gh F n l p m acc).1.length ≤ acc.length + F := by
 intro F
 induction F with
 | zero => intro n l acc; unfold gh; simp
 | succ F ih =>
  intro n l acc
  unfold gh
  split
  · simp
  · rename_i s _
    split
    rename_i n' l' e _
    split
    · have := ih n' l' (acc ++ [s])
      simp only [List.length_append, List.length_singleton] at this
      omega
    · simp
theorem agh (h : lvE n ps = 0) (hb : cu n p m = 0) : (lsT n ps p m).1.length ≤ FU := by
 obtain ⟨h0, h8, h64, _⟩ := kz h
 have hT := a58 (ps := ps) h0 (by omega) h64
 have hck : ckE n (b4 (bg n ps)) p m = 0 := (if_pos hT).trans hb
 unfold lsT
 rw [ph hck]
 have := aje (p := p) (m := m) FU n (b4 (bg n ps)) []
 simpa using this
def a6k (n : Int) (t : List Rw) : Bool := t.any fun r => decide (r = cg n)
def prX (n : Int) (ps : List AS) (p m : List Fd) : Int := idx (fun a : Int × List Rw => a6k n a.2) (rcR n ps p m).2.1
def prC (n : Int) (ps : List AS) (p m : List Fd) : Int := if (rcR n ps p m).2.2 = 0 then (if prX n ps p m < 0 then 11 else 0) else (rcR n ps p m).2.2
def prS (n : Int) (ps : List AS) (p m : List Fd) : List St := if (rcR n ps p m).2.2 = 0 then (if prX n ps p m < 0 then [] else (rcR n ps p m).1.take (prX n ps p m).toNat) else []
theorem yl : (rcR n ps p m).2.2 = lsC n ps p m := by
 unfold rcR
 split
 · rename_i h; exact h.symm
 · rfl
theorem aj3 : ¬ lsC n ps p m = 11 := by
 intro h
 unfold lsC at h
 split at h
 · rename_i hv
   split at h
   · rename_i hb
     rcases a08 (kz hv).2.2.1 hb with ⟨e, _⟩ | ⟨sts, lend, e, _⟩
     · unfold lsT at h; rw [e] at h; exact absurd h (by decide)
     · unfold lsT at h; rw [e] at h; exact absurd (show (0 : Int) = 11 from h) (by decide)
   · unfold cu av at h
     (repeat' split at h) <;> omega
 · unfold lvE at h
   (repeat' split at h) <;> omega
theorem agm (hc : lsC n ps p m = 0) : (0 ≤ prX n ps p m) ↔ lsB n ps p m = true := by
 obtain ⟨h1, h2⟩ := zh hc
 have hc2 : (lsT n ps p m).2.2 = 0 := (aa4 h1 h2).symm.trans hc
 obtain ⟨sts, lend, e, _, _, h3⟩ := ais h1 h2 hc2
 have e1 : lsB n ps p m = decide (cg n ∈ lend) := by
  unfold lsB
  rw [decide_eq_true hc, Bool.true_and, e]
  exact up
 have e2 : (rcR n ps p m).2.1 = jg n p m (b4 (bg n ps)) sts := by rw [aa0 hc, e]
 have e3 : (jg n p m (b4 (bg n ps)) sts).any (fun a => a6k n a.2) = decide (0 ≤ prX n ps p m) := by
  unfold prX
  rw [e2]
  exact zj.symm
 rw [e1, decide_eq_true_iff, ← h3, ← decide_eq_true_iff (p := 0 ≤ prX n ps p m), ← e3, List.any_eq_true]
 unfold jg a6k
 constructor
 · rintro ⟨x, hx, h⟩
   obtain ⟨t, ht, rfl⟩ := List.mem_map.1 hx
   exact ⟨t, ht, by rw [up] at h; exact of_decide_eq_true h⟩
 · rintro ⟨t, ht, h⟩
   exact ⟨(n, t), List.mem_map.2 ⟨t, ht, rfl⟩, by rw [up]; exact decide_eq_true h⟩
theorem b1n (h : prC n ps p m = 11) : lsB n ps p m = false ∧ lsC n ps p m = 0 := by
 unfold prC at h
 rw [yl] at h
 split at h
 · rename_i hc
   split at h
   · rename_i hx
     refine ⟨?_, hc⟩
     rw [Bool.eq_false_iff]
     intro e
     have := (agm hc).2 e
     omega
   · exact absurd h (by decide)
 · exact absurd h aj3
theorem b13 (h : ¬ prC n ps p m = 11) : decide (prC n ps p m = 0) = lsB n ps p m ∧ prC n ps p m = lsC n ps p m := by
 unfold prC at h ⊢
 rw [yl] at h ⊢
 split at h
 · rename_i hc
   split at h
   · exact absurd rfl h
   · rename_i hx
     rw [if_pos hc, if_neg hx, hc]
     refine ⟨?_, rfl⟩
     have := (agm hc).1 (by omega)
     rw [this]
     rfl
 · rename_i hc
   rw [if_neg hc]
   refine ⟨?_, rfl⟩
   unfold lsB
   rw [decide_eq_false hc]
   rfl
end
end Go.Hx
end
section
namespace Go.Hx
open Go.Proofs
theorem azy {n : Int} {ps : List AS} {p m : List Fd} (h : lvE n ps = 0) (hb : cu n p m = 0) (hc : (lsT n ps p m).2.2 = 0) : TrZ n p m (lsT n ps p m).2.1.2 (b4 (bg n ps)) (lsT n ps p m).1 := by
 obtain ⟨sts, lend, e, htr, _⟩ := ais h hb hc
 rw [e]
 exact htr
theorem b08 {n : Int} {ps : List AS} {p m : List Fd} (h : (rcR n ps p m).2.2 = 0) : (rcR n ps p m).2.1.length = (rcR n ps p m).1.length + 1 := by
 rw [yl] at h
 rw [aa0 h]
 exact a44
theorem b2f {n : Int} {ps : List AS} {p m : List Fd} (h : (rcR n ps p m).2.2 = 0) : 0 ≤ n ∧ n ≤ 16 ∧ (rcR n ps p m).1.length ≤ FU := by
 rw [yl] at h
 obtain ⟨h1, h2⟩ := zh h
 rw [aa0 h]
 have := kz h1
 exact ⟨this.1, by omega, agh h1 h2⟩
theorem asq {n : Int} {l : List Rw} {T : List (Int × List Rw)} {e : TypeId} {N : Nat} {f : Nat → Nat → PV} (h : T = [(n, l)]) (hN : N = 1) (h0 : CoP (f 0 0) (.raw (.int .i64 n))) (h1 : CoP (f 0 1) (rl l)) : CoO (.arr true 2 e N f) (.arr true 2 e T.length (lf tbC T)) := by
 subst h hN
 refine ⟨fun h => h, rfl, rfl, rfl, fun a j ha hj => ?_⟩
 have ha : a = 0 := by
  have : a < 1 := ha
  omega
 subst ha
 match j, hj with
 | 0, _ => exact h0
 | 1, _ => exact h1
theorem aov {n : Nat} {l : List St} {i : Nat} {cl : Bool} (hn : n = (l.take i).length) {f : Nat → Nat → PV} (hf : ∀ a j, f a j = lf St.c l a j) : CoP (.sl n 4 cl f) (stl (l.take i)) := by
 refine CoP.sl hn.symm (.inl rfl) (fun h => by cases h) fun a j ha hj => CoP.of_eq ?_
 rw [hf]
 show St.c (l.getD a default) j = St.c ((l.take i).getD a default) j
 have : a < i := by rw [hn, List.length_take] at ha; omega
 rw [List.getD_eq_getElem?_getD, List.getD_eq_getElem?_getD, List.getElem?_take, if_pos this]
theorem asx (n : Int) (ps : List AS) (h : lvE n ps = 0) : ah Tryz.prog 148 [pI n, pP (asl ps)] (ap [pT n (b4 (bg n ps)), pI 0]) := by
 have := b0d n ps
 rw [aad h] at this
 exact this
theorem apt (n : Int) (ps : List AS) (h : lvE n ps = 0) : ah Tryz.prog 144 [pI n, pP (asl ps)] (ap [pT n (b4 (bg n ps)), pI 0]) := by
 have := ax2 n ps
 rw [aad h] at this
 exact this
theorem aua (n : Int) (ps : List AS) (p m : List Fd) : ah Tryz.prog 149 [pT n (b4 (bg n ps)), pP (fdl p), pP (fdl m)] (ap [pP (stl (lsT n ps p m).1), pT (lsT n ps p m).2.1.1 (lsT n ps p m).2.1.2, pI (lsT n ps p m).2.2]) :=
 b02 FU n (b4 (bg n ps)) p m (fun h => ab3 h) (by decide)
theorem anu (n : Int) (ps : List AS) (p m : List Fd) : ah Tryz.prog 145 [pT n (b4 (bg n ps)), pP (fdl p), pP (fdl m)] (ap [pP (stl (lsT n ps p m).1), pT (lsT n ps p m).2.1.1 (lsT n ps p m).2.1.2, pI (lsT n ps p m).2.2]) :=
 awm FU n (b4 (bg n ps)) p m (fun h => ab3 h) (by decide)
theorem akk (n : Int) (l : List Rw) (p m : List Fd) (s : St) (hT : tok n l = true) (hb : cu n p m = 0) (h : vi l p m s) (he : dj n l p m s = (n, (dj n l p m s).2.1, 0)) : ah Tryz.prog 146 [pT n l, pP (fdl p), pP (fdl m), s.pc] (ap [pT n (dj n l p m s).2.1, pI 0]) := by
 have := a97 n l p m s ((if_pos hT).trans hb) h
 rw [he] at this
 exact this
theorem b0v {n : Int} {p m : List Fd} {l lend : List Rw} {sts : List St} {i : Nat} (hi : i < sts.length) (h : TrZ n p m lend l (sts.drop i)) : tok n l = true ∧ vi l p m (sts.getD i default) ∧ dj n l p m (sts.getD i default) = (n, (dj n l p m (sts.getD i default)).2.1, 0) := by
 have e : sts.drop i = sts.getD i default :: sts.drop (i + 1) := by
  rw [List.drop_eq_getElem_cons hi, List.getD_eq_getElem?_getD, List.getElem?_eq_getElem hi]; rfl
 rw [e] at h
 obtain ⟨h1, h2, l', h3, h4, h5⟩ := h
 rw [h3]
 exact ⟨h1, h2, rfl⟩
end Go.Hx
end
