/- A part of the proof: SrW Cs10 V8 Cs11 Gr V9 Cs12 V10 Cs13. -/
import Derived.Shelf.SlSortCmp.NoneTotal
import Derived.Test.YtidophngianjiaaGreatDoor10x15
import Derived.Test.YtidophngianjiaaGreatDoor10x18
import Derived.Test.YtidophngianjiaaGreatDoor10x19
set_option linter.all false
section
namespace Go.Hx
open Go.Proofs Go.RowKit Go.Sort
set_option maxRecDepth 100000
theorem aih {w w' : World} (h : Below w.heap.size w w') : ∃ q os, w' = grow (w.drewN q) os := by
 refine ⟨w'.drawn - w.drawn, w'.heap.extract w.heap.size w'.heap.size, ?_⟩
 have hd := h.drawn
 obtain ⟨h1, h2, h3, h4, h5, _⟩ := h
 cases w with
 | mk hp tp dr os out =>
 cases w' with
 | mk hp' tp' dr' os' out' =>
 dsimp only at *
 subst h1 h2 h3
 unfold grow World.drewN
 simp only [World.mk.injEq, true_and, and_true]
 refine ⟨?_, by omega⟩
 apply Array.ext_getElem?
 intro k
 rw [Array.getElem?_append]
 by_cases hk : k < hp.size
 · rw [if_pos hk, h5 k hk]
 · rw [if_neg hk, Array.getElem?_extract]
   by_cases hk2 : k < hp'.size
   · rw [if_pos (by omega)]
     congr 1
     omega
   · rw [if_neg (by omega), Array.getElem?_eq_none (by omega)]
theorem ah4 {α : Type} [Inhabited α] {enc : α → Value} {w : World} {g m : Nat} {d : Array α} {os : Array Obj} {cur : Array Value} {e : TypeId} {fr : Nat × Nat} (h : w.heap[g]? = some (.cells cur e fr)) :
 (sortWorld enc w g 0 m d os).heap[g]? = some (.cells (putCells enc 0 d cur) e fr) := by
 have hlt := (Array.getElem?_eq_some_iff.1 h).1
 unfold sortWorld
 rw [heap_grow_old _ _ (by simpa using hlt)]
 unfold putRow mapBlock
 simp only [heap_ahead, Array.getElem?_modify, if_true, h]
 rfl
theorem yn {α : Type} [Inhabited α] {enc : α → Value} {w : World} {g m : Nat} {d : Array α} {os : Array Obj} {b : Nat} (hb : b < w.heap.size) (hne : b ≠ g) : (sortWorld enc w g 0 m d os).heap[b]? = w.heap[b]? := by
 unfold sortWorld
 rw [heap_grow_old _ _ (by simpa using hb)]
 unfold putRow mapBlock
 simp only [heap_ahead, Array.getElem?_modify, if_neg (Ne.symm hne)]
theorem aic {α : Type} [Inhabited α] {enc : α → Value} {w : World} {g m : Nat} {d : Array α} {os : Array Obj} : Below 0 w (sortWorld enc w g 0 m d os) :=
 ⟨rfl, rfl, rfl, by unfold sortWorld; simp, fun k hk => absurd hk (Nat.not_lt_zero k), by unfold sortWorld grow; simp⟩
theorem aq5 {α : Type} [Inhabited α] {enc : α → Value} {d : Array α} {cur : Array Value} (h : d.size ≤ cur.size) : (putCells enc 0 d cur).toList.take d.size = d.toList.map enc := by
 apply List.ext_getElem?
 intro k
 rw [List.getElem?_take, List.getElem?_map, Array.getElem?_toList, Array.getElem?_toList]
 by_cases hk : k < d.size
 · rw [if_pos hk]
   unfold putCells
   rw [Array.getElem?_mapIdx, Array.getElem?_eq_getElem (by omega), Array.getElem?_eq_getElem hk]
   simp only [Option.map_some, Nat.zero_add, Nat.sub_zero]
   rw [if_pos ⟨Nat.zero_le _, hk⟩, getElem!_pos d k hk]
 · rw [if_neg hk, Array.getElem?_eq_none (by omega)]
   rfl
theorem akd {P : Program} {ρ : Go.Shelf.Ren} {α : Type} [Inhabited α] (L : SlLaysF.n6 P ρ) (enc : α → Value) (h1 : ∀ x, (enc x).oneCell' = true) (cf : α → α → Int) (hO : SWO (ltOf cf)) (hT : ∀ x y, (ltOf cf) x y = false → (ltOf cf) y x = false → x = y)
 (g : Nat) (caps : Nat → PV) (hg : ∀ args w, (callFunc g args).run P w = .ok (.enter g args) w) (hc : ∀ x y, ah P g [.one (.raw (enc x)), .one (.raw (enc y))] (ap [.one (.raw (.int .i64 (cf x y)))])) (id : Nat) (e : TypeId) (l : List α) (hsz : l.length ≤ 8589934592) :
 ee P (ρ.f 6) [.one (.ref id l.length), .one (.p (.fn g 0 caps))] [(id, .arr true 1 e l.length (lf (fun x _ => .raw (enc x)) l))] (.tup [])
  [(id, .arr true 1 e l.length (lf (fun x _ => .raw (enc x)) (l.mergeSort fun x y => !(ltOf cf) y x)))] [id] := by
 intro w c us hM hus
 match us, hus with
 | [u, v], ⟨hu, hv, _⟩ =>
  obtain ⟨cs, rfl, hcl, _⟩ := hv
  have hcs : cs = [] := List.eq_nil_of_length_eq_zero hcl
  subst hcs
  have hl1 : lk [(id, aj.arr true 1 e l.length (lf (fun x _ => .raw (enc x)) l))] id = some (.arr true 1 e l.length (lf (fun x _ => .raw (enc x)) l)) := by simp [lk]
  have hu2 := (hu.2.2 _ _ _ _ hl1 rfl).2 rfl
  subst hu2
  have hob := hM.objs id _ hl1
  obtain ⟨h0, hmax, h5⟩ := hob
  have hlen : (l.mergeSort fun x y => !(ltOf cf) y x).length = l.length := List.length_mergeSort _
  have hev : ∀ f' : Nat → Nat → PV, Evo c (lk [(id, aj.arr true 1 e l.length (lf (fun x _ => .raw (enc x)) l))]) c (lk [(id, aj.arr true 1 e l.length f')]) id := fun f' =>
   .inr (.inr ⟨_, .arr true 1 e l.length f', 1, e, l.length, l.length, hl1, rfl, by simp [lk], rfl, Nat.le_refl _, fun _ => rfl, fun _ _ _ _ _ _ _ h => by cases h⟩)
  rcases Nat.eq_zero_or_pos l.length with hz | hpos
  ·
   have hl : l = [] := List.eq_nil_of_length_eq_zero hz
   subst hl
   have hform : ∃ ad cap, c.own id = .slice ad 0 cap := by
    rcases h5 with ⟨_, xs, h2, _⟩ | ⟨_, _, ad, cap, hv, _⟩
    · rcases h2.2 with ⟨hv, _⟩ | ⟨g, cap, cur, hv, _⟩
      · exact ⟨none, 0, hv⟩
      · exact ⟨_, cap, hv⟩
    · exact ⟨ad, cap, hv⟩
   obtain ⟨ad, cap, hown⟩ := hform
   have hms : ([] : List α).mergeSort (fun x y => !(ltOf cf) y x) = [] := by simp
   rw [hown, hms]
   refine (AnyF.slices_SortFunc_none { L with } ad cap (.func (.func g) #[] #[]) w).mono ?_
   rintro e' w' ⟨rfl, rfl⟩
   exact ⟨_, c, rfl, ⟨[], rfl, trivial⟩, hM, Below.refl _ _, fun _ _ _ => ⟨rfl, rfl⟩, fun id0 ob b ho hb => .inr ⟨id0, ob, ho, hb⟩, fun id0 hid => by
    rw [List.mem_singleton.1 hid]
    exact Evo.refl _ _ _⟩
  · obtain ⟨h6, xs, h2, h4⟩ : c.blk id = gm (c.own id) ∧ ∃ xs, w.ownsRow 0 e 1 (c.own id) l.length xs ∧ ∀ i j, i < l.length → j < 1 → ∃ x, xs[i * 1 + j]? = some x ∧ b8 c.imm (lf (fun x _ => .raw (enc x)) l i j) x := by
     rcases h5 with h5 | ⟨h6 | h6, _⟩
     · exact h5
     · cases h6
     · omega
    obtain ⟨hxl, hrow⟩ := h2
    rcases hrow with ⟨_, hz⟩ | ⟨b, cap, cur, hown, hbase, hheap, hnc, hcm, hcs, htake⟩
    · omega
    have hblk : c.blk id b := by rw [h6, hown]; rfl
    have hlt : b < w.heap.size := (Array.getElem?_eq_some_iff.1 hheap).1
    have hcell : ∀ j, (hj : j < l.length) → cur[j]? = some (enc l[j]) := fun j hj => by
     obtain ⟨x, hx, hr⟩ := h4 j 0 hj (by omega)
     rw [Nat.mul_one, Nat.add_zero, ← htake, List.getElem?_take, if_pos (by omega), Array.getElem?_toList] at hx
     rw [hx]
     have hr : x = enc (l.getD j default) ∧ _ := hr
     rw [hr.1, List.getD_eq_getElem?_getD, List.getElem?_eq_getElem hj]
     rfl
    have hH : Holds enc w b 0 l.toArray := fun j hj => by
     have hj : j < l.length := by simpa using hj
     rw [Nat.zero_add]
     refine ⟨?_, by simp [World.frozen?, hheap]⟩
     have : l.toArray[j]! = l[j] := by rw [getElem!_pos l.toArray j (by simpa using hj)]; simp
     rw [this]
     simp [World.cell?, hheap, hcell j hj]
    have hcmp : CmpLays1 P g #[] enc cf b 0 l.toArray.size w := by
     intro m os dk hdk x y
     have hcimm : ∀ b' ob, c.imm b' = some ob → (sortWorld enc w b 0 m dk os).heap[b']? = some ob := fun b' ob hb' => by
      have hne : b' ≠ b := fun he => by
       have := hM.sep id _ b hl1 hblk
       rw [← he, hb'] at this
       cases this
      have hw := hM.imm b' ob hb'
      rw [yn (Array.getElem?_eq_some_iff.1 hw).1 hne]
      exact hw
     have h := hc x y (sortWorld enc w b 0 m dk os) c.imm [enc x, enc y] c.tab hcimm ⟨⟨rfl, h1 x⟩, ⟨rfl, h1 y⟩, trivial⟩
     refine h.mono ?_
     rintro e' w' ⟨v, imm', rfl, hr, _, _, hb⟩
     obtain ⟨q, os', hq⟩ := aih hb
     exact ⟨by rw [hr.1], q, os', hq⟩
    have hS := Any.slices_SortFunc_total L enc h1 cf hO g #[] b 0 cap l.toArray w hg hcmp hH hlt (by rw [List.size_toArray]; omega) hT
    rw [hown]
    refine Calls.mono hS ?_
    rintro e' w' ⟨rfl, m, os, rfl⟩
    generalize hSd : (l.mergeSort fun x y => !(ltOf cf) y x) = S at *
    refine ⟨_, c, rfl, ⟨[], rfl, trivial⟩, ⟨fun id0 ob ho => ?_, fun id0 id1 ob0 ob1 b' ho0 ho1 _ _ => (gr ho0).1.trans (gr ho1).1.symm, fun b' ob hb' => ?_, fun id0 ob b' ho hb' => ?_⟩, aic,
     fun b' hb' hno => ⟨yn hb' (fun he => hno id _ hl1 (by rw [he]; exact hblk)), rfl⟩, fun id0 ob b' ho hb' => .inr ⟨id, _, hl1, by rw [← (gr ho).1]; exact hb'⟩, fun id0 hid => by
      rw [List.mem_singleton.1 hid]
      exact hev _⟩
    · obtain ⟨rfl, rfl⟩ := gr ho
      refine ⟨h0, hmax, .inl ⟨h6, S.map enc, ⟨by simp [hlen], .inr ⟨b, cap, putCells enc 0 S.toArray cur, hown, hbase, ah4 hheap, hnc, hcm, by simpa [putCells] using hcs, ?_⟩⟩, fun i j hi hj => ?_⟩⟩
      · have := aq5 (enc := enc) (d := S.toArray) (cur := cur) (by rw [List.size_toArray, hlen, hcs]; omega)
        rw [List.size_toArray, hlen] at this
        rw [Nat.mul_one]
        exact this
      · obtain rfl : j = 0 := by omega
        have hi' : i < S.length := by rw [hlen]; exact hi
        refine ⟨enc S[i], ?_, ?_⟩
        · rw [Nat.mul_one, Nat.add_zero, List.getElem?_map, List.getElem?_eq_getElem hi']
          rfl
        · show b8 c.imm (.raw (enc (S.getD i default))) _
          rw [List.getD_eq_getElem?_getD, List.getElem?_eq_getElem hi']
          exact ⟨rfl, h1 _⟩
    · have hne : b' ≠ b := fun he => by
       have := hM.sep id _ b hl1 hblk
       rw [← he, hb'] at this
       cases this
      have hw := hM.imm b' ob hb'
      rw [yn (Array.getElem?_eq_some_iff.1 hw).1 hne]
      exact hw
    · have := (gr ho).1
      subst this
      exact hM.sep id0 _ b' hl1 hb'
 | [], h => exact h.elim
 | [_], ⟨_, h⟩ => exact h.elim
 | _ :: _ :: _ :: _, ⟨_, _, h⟩ => exact h.elim
theorem w6 {a b : AS} : ltOf xf a b = bef a b := aqy
theorem apn : SWO (ltOf xf) where
 irrefl x := by rw [w6]; exact w3 x
 trans x y z h k := by rw [w6] at *; exact ux h k
 ntrans x y z h k := by
  rw [w6] at *
  rw [Bool.eq_false_iff, ne_eq, o6] at *
  omega
def srt (l : List AS) : List AS := l.mergeSort fun x y => !bef y x
theorem axg : goodFn Tryz.prog 112 := ⟨Tryz.f112, Tryz.func112, by kernel_rfl, by kernel_rfl⟩
theorem b1c (id : Nat) (caps : Nat → PV) (l : List AS) (hsz : l.length ≤ 8589934592) : ee Tryz.prog 112 [.one (.ref id l.length), .one (.p (.fn 113 0 caps))] [(id, .arr true 1 38 l.length (lf sC l))] (.tup [])
 [(id, .arr true 1 38 l.length (lf sC (srt l)))] [id] := by
 have h := akd Tryz.laysSort (fun s : AS => .int .u32 (asI s)) (fun _ => rfl) xf apn (fun x y h k => by
  rw [w6] at h k
  apply Classical.byContradiction
  intro hne
  rcases a7p hne with h2 | h2
  · rw [h] at h2; cases h2
  · rw [k] at h2; cases h2) 113 caps (enters_of Tryz.func113 (by kernel_rfl) rfl) (fun x y => aot x y) id 38 l hsz
 have e : (fun x y : AS => !(ltOf xf) y x) = fun x y => !bef y x := by
  funext x y
  rw [w6]
 rw [e] at h
 exact h
theorem awv {l : List AS} {x : AS} : x ∈ srt l ↔ x ∈ l := by unfold srt; exact List.mem_mergeSort
theorem afl (l : List AS) : (srt l).length = l.length := List.length_mergeSort _
theorem a0q : ∀ {l : List AS} {p : Option AS}, l.Pairwise (fun a b => bef b a = false) → (∀ x, p = some x → ∀ y ∈ l, bef y x = false) → (j6 p l).Pairwise (fun a b => bef a b = true) ∧ ∀ x, p = some x → ∀ y ∈ j6 p l, bef x y = true
 | [], p, _, _ => ⟨by simp [j6], fun x _ y hy => by simp [j6] at hy⟩
 | z :: l, p, h, hp => by
  obtain ⟨h1, h2⟩ := List.pairwise_cons.1 h
  simp only [j6]
  split
  · rename_i e
    subst e
    exact a0q h2 fun x hx y hy => hp x hx y (List.mem_cons_of_mem _ hy)
  · rename_i hne
    obtain ⟨q1, q2⟩ := a0q (p := some z) h2 fun x hx y hy => by
     simp only [Option.some.injEq] at hx
     subst hx
     exact h1 y hy
    refine ⟨List.pairwise_cons.2 ⟨fun y hy => q2 z rfl y hy, q1⟩, fun x hx y hy => ?_⟩
    have hxz : bef x z = true := by
     have h3 := hp x hx z List.mem_cons_self
     rcases a7p (a := x) (b := z) (fun e => hne (by rw [hx, e])) with h4 | h4
     · exact h4
     · rw [h3] at h4; cases h4
    rcases List.mem_cons.1 hy with rfl | hy
    · exact hxz
    · exact ux hxz (q2 z rfl y hy)
theorem aqd (l : List AS) : lc (srt l) = ord l := by
 refine ay3 (a0q ?_ fun x hx => by cases hx).1 fun z => by rw [adg, awv]
 have h := List.pairwise_mergeSort (le := fun x y : AS => !bef y x) (fun a b c h k => by
  simp only [Bool.not_eq_true'] at *
  rw [Bool.eq_false_iff, ne_eq, o6] at *
  omega) (fun a b => by
  simp only [Bool.or_eq_true, Bool.not_eq_true']
  rw [Bool.eq_false_iff, Bool.eq_false_iff, ne_eq, ne_eq, o6, o6]
  omega) l
 refine h.imp fun {a b} hab => ?_
 simpa using hab
end Go.Hx
end
section
namespace Go.Hx
abbrev vB (b : Bool) : HR := c5 (.raw (.bool b))
abbrev bx (a : PV) : PV := .vp 1 fun j => [a].getD j .any
def a03 (W : AS → AS → Bool) (l : List AS) (x : AS) : Bool := l.any fun b => decide (x ≠ b) && W x b
def aa2 (W : AS → AS → Bool) (l : List AS) : List AS := (ord l).filter fun x => !a03 W (ord l) x
def acf (a b : AS) : Bool := decide (sub a b)
def qz (l : List AS) : List AS := aa2 acf l
theorem alq (l : List AS) : (ord l).Nodup := (ac3 l).imp fun {a b} h e => by
 subst e
 rw [w3] at h
 cases h
def okT (l : List AS) (i k : Nat) : Bool := (List.range k).all fun j => decide (j = i) || !acf (l.getD i default) (l.getD j default)
def b3f (l : List AS) (i : Nat) : List AS := ((ord l).take i).filter fun x => !a03 acf (ord l) x
end Go.Hx
end
section
namespace Go.Hx
open Go.Proofs
set_option maxRecDepth 100000
theorem aao : goodFn Tryz.prog 56 := ⟨Tryz.f56, Tryz.func56, by kernel_rfl, by kernel_rfl⟩
theorem abw (l : List AS) (hl : l.length ≤ 8589934592) : ah Tryz.prog 56 [pP (asl l)] (ap [pP (asl (ord l))]) := by
 refine ag (nt := 10) af Tryz.func56 rfl rfl l9 ?_; refine sx7 ?_; refine qy ?_; refine a6 ?_; refine sx7 ?_; refine qy ?_
 refine cz rfl rfl rfl rfl rfl rfl alw (afm l.length false (lf sC l) (by omega)) (fk.refl _) trivial rfl rfl ?_; refine qy ?_; refine a6 ?_; refine sx7 ?_; refine qy ?_
 refine cz rfl rfl rfl rfl rfl rfl axg (b1c 0 _ l hl) (fk.refl _) ⟨u9, trivial⟩ rfl rfl ?_; refine a6 ?_; refine sx7 ?_; refine qy ?_
 refine cz rfl rfl rfl rfl rfl rfl aui ((ap7 (srt l)).swap 900 0) (⟨congrArg (HV.ref 0) (afl l).symm, trivial⟩) ⟨⟨_, rfl, iu rfl (afl l).symm⟩, trivial⟩ rfl rfl ?_; refine qy ?_; refine a6 ?_
 exact hx8 rfl rfl rfl (⟨CoC.one (CoP.of_eq (by rw [aqd])), trivial⟩)
theorem axi : goodFn Tryz.prog 140 := ⟨Tryz.f140, Tryz.func140, by kernel_rfl, by kernel_rfl⟩
theorem au4 (b x : AS) (g k : Nat) (caps : Nat → PV) (W : AS → AS → Bool) (hg : goodFn Tryz.prog g) (hW : ∀ x y, ah Tryz.prog g (pA x :: pA y :: iw caps k 0) (ap [pB (W x y)])) : ah Tryz.prog 140 [pA b, pP (bx (asC x)), pP (bx (.fn g k caps))] (ap [pB (decide (x ≠ b) && W x b)]) := by
 refine ag (nt := 14) af Tryz.func140 rfl rfl l9 ?_; refine sx7 ?_; refine qy ?_; refine a6 ?_; refine sx7 ?_; (iterate 4 refine qy ?_); refine bc rfl rfl (fun r0 => ?_) (fun r0 => ?_)
 ·
  have h0 := r0
  have h0 := of_decide_eq_false (ax h0)
  try simp only [ty] at h0
  (iterate 3 refine qy ?_ (hg := (gtt r0))); refine rc rfl rfl rfl rfl rfl rfl hg (hW x b) (CoL.refl _) rfl (gtt r0) ?_; (iterate 2 refine qy ?_); refine a6 ?_
  exact hx8 rfl rfl rfl (⟨ccb (by simp_all [db]), trivial⟩)
 ·
  have h0 := r0
  have h0 := of_decide_eq_true (aw h0)
  try simp only [ty] at h0
  (iterate 4 refine k9 (gft r0) ?_); refine rq rfl rfl rfl rfl rfl ?_ (hp := r0); refine qy ?_; refine a6 ?_
  exact hx8 rfl rfl rfl (⟨ccb (by simp_all [db]), trivial⟩)
theorem awq : goodFn Tryz.prog 139 := ⟨Tryz.f139, Tryz.func139, by kernel_rfl, by kernel_rfl⟩
theorem b03 (x : AS) (l : List AS) (g k : Nat) (caps : Nat → PV) (W : AS → AS → Bool) (hg : goodFn Tryz.prog g) (hW : ∀ x y, ah Tryz.prog g (pA x :: pA y :: iw caps k 0) (ap [pB (W x y)])) : ah Tryz.prog 139 [pA x, pP (bx (asl l)), pP (bx (.fn g k caps))] (ap [pB (a03 W l x)]) := by
 refine ag (nt := 8) af Tryz.func139 rfl rfl l9 ?_; refine sx7 ?_; refine m9 0 ?_; refine qy ?_; refine a6 ?_; refine a7 ?_; refine kw 3 rfl rfl rfl ?_; refine gy ?_; (iterate 2 refine qy ?_)
 refine rc rfl rfl rfl rfl rfl rfl ayp (b15 l 140 2 (fun i => [bx (asC x), bx (.fn g k caps)].getD i .any) (fun b => decide (x ≠ b) && W x b) axi (fun b => au4 b x g k caps W hg hW)) (CoL.refl _) rfl rfl ?_
 refine qy ?_; refine a6 ?_
 exact hx8 rfl rfl rfl (CoL.refl _)
theorem b06 : goodFn Tryz.prog 92 := ⟨Tryz.f92, Tryz.func92, by kernel_rfl, by kernel_rfl⟩
theorem b1u (l : List AS) (hl : l.length ≤ 8589934592) (g k : Nat) (caps : Nat → PV) (W : AS → AS → Bool) (hg : goodFn Tryz.prog g) (hW : ∀ x y, ah Tryz.prog g (pA x :: pA y :: iw caps k 0) (ap [pB (W x y)])) : ah Tryz.prog 92 [pP (asl l), pP (.fn g k caps)] (ap [pP (asl (aa2 W l))]) := by
 refine ag (nt := 12) af Tryz.func92 rfl rfl l9 ?_; refine sx7 ?_; refine m9 2 ?_; refine qy ?_; refine a6 ?_; refine sx7 ?_; refine qy ?_
 refine rc rfl rfl rfl rfl rfl rfl aao (abw l hl) (CoL.refl _) rfl rfl ?_; refine m9 3 ?_; refine s9 ?_; refine a6 ?_; refine a7 ?_; refine kw 5 rfl rfl rfl ?_; refine kw 3 rfl rfl rfl ?_
 refine gy ?_; refine qy ?_; refine cz rfl rfl rfl rfl rfl rfl alw (afm (ord l).length false (lf sC (ord l)) (Nat.le_trans (a14 l) (by omega))) (fk.refl _) trivial rfl rfl ?_; refine qy ?_
 refine cz rfl rfl rfl rfl rfl rfl auz ((b0m (ord l) 139 2 (fun i => [bx (asl (ord l)), bx (.fn g k caps)].getD i .any) (a03 W (ord l)) awq (fun x => b03 x (ord l) g k caps W hg hW)).swap 900 0) (fk.refl _) ⟨u9, trivial⟩ rfl rfl ?_
 refine qy ?_; refine a6 ?_
 exact hx8 rfl rfl rfl (CoL.refl _)
theorem ay1 : goodFn Tryz.prog 93 := ⟨Tryz.f93, Tryz.func93, by kernel_rfl, by kernel_rfl⟩
theorem b1w (a b : AS) : ah Tryz.prog 93 [pA a, pA b] (ap [pB (acf a b)]) := by
 refine ag (nt := 9) af Tryz.func93 rfl rfl l9 ?_; refine sx7 ?_; refine qy ?_; refine a6 ?_; refine sx7 ?_; (iterate 5 refine qy ?_); refine a6 ?_
 exact hx8 rfl rfl rfl (⟨ccb (decide_eq_decide.2 fy), trivial⟩)
theorem ayc : goodFn Tryz.prog 46 := ⟨Tryz.f46, Tryz.func46, by kernel_rfl, by kernel_rfl⟩
theorem aqz (l : List AS) (hl : l.length ≤ 8589934592) : ah Tryz.prog 46 [pP (asl l)] (ap [pP (asl (qz l))]) := by
 refine ag (nt := 5) af Tryz.func46 rfl rfl l9 ?_; refine sx7 ?_; refine qy ?_; refine a6 ?_; refine sx7 ?_; refine qy ?_
 refine rc rfl rfl rfl rfl rfl rfl b06 (b1u l hl 93 0 _ acf ay1 (fun a b => b1w a b)) (CoL.refl _) rfl rfl ?_; refine qy ?_; refine a6 ?_
 exact hx8 rfl rfl rfl (CoL.refl _)
end Go.Hx
end
section
namespace Go.Hx
def fl (l : List Fd) : List Fd := l.foldl (fun o x => if x ∈ o then o else o ++ [x]) []
theorem a5v {l : List Fd} {i : Nat} (hi : i < l.length) : fl (l.take (i + 1)) = if l.getD i default ∈ fl (l.take i) then fl (l.take i) else fl (l.take i) ++ [l.getD i default] := by
 unfold fl
 rw [bt hi, List.foldl_append]
 rfl
theorem ada {l : List Fd} {s : Fd} : (l.any fun x => decide (x = s)) = decide (s ∈ l) := by
 rw [Bool.eq_iff_iff, List.any_eq_true, decide_eq_true_iff]
 constructor
 · rintro ⟨x, hx, h⟩
   exact of_decide_eq_true h ▸ hx
 · intro h
   exact ⟨s, h, decide_eq_true rfl⟩
theorem a18 {l : List Fd} {i : Nat} (hi : i < l.length) (h : ((fl (l.take i)).any fun x => decide (x = l.getD i default)) = false) : fl (l.take (i + 1)) = fl (l.take i) ++ [l.getD i default] := by
 rw [ada] at h
 rw [a5v hi, if_neg (of_decide_eq_false h)]
theorem a1s {l : List Fd} {i : Nat} (hi : i < l.length) (h : ((fl (l.take i)).any fun x => decide (x = l.getD i default)) = true) : fl (l.take (i + 1)) = fl (l.take i) := by
 rw [ada] at h
 rw [a5v hi, if_pos (of_decide_eq_true h)]
theorem zi : ∀ (l o : List Fd), (l.foldl (fun o x => if x ∈ o then o else o ++ [x]) o).length ≤ o.length + l.length ∧ ∀ z, z ∈ l.foldl (fun o x => if x ∈ o then o else o ++ [x]) o ↔ z ∈ o ∨ z ∈ l
 | [], o => ⟨by simp, fun z => by simp⟩
 | x :: l, o => by
  obtain ⟨h1, h2⟩ := zi l (if x ∈ o then o else o ++ [x])
  simp only [List.foldl_cons]
  refine ⟨?_, fun z => ?_⟩
  · refine Nat.le_trans h1 ?_
    split <;> simp <;> omega
  · rw [h2 z, List.mem_cons]
    split
    · rename_i hx
      constructor
      · rintro (h | h) <;> simp [h]
      · rintro (h | rfl | h)
        · exact .inl h
        · exact .inl hx
        · exact .inr h
    · rw [List.mem_append, List.mem_singleton]
      constructor
      · rintro ((h | h) | h) <;> simp [h]
      · rintro (h | h | h) <;> simp [h]
theorem a02 (l : List Fd) : (fl l).length ≤ l.length := by
 have := (zi l []).1
 simpa [fl] using this
theorem ir {l : List Fd} {z : Fd} : z ∈ fl l ↔ z ∈ l := by
 have := (zi l []).2 z
 simpa [fl] using this
def b3m (l : List Fd) (i k : Nat) : Bool := (l.take k).any fun x => decide (x = l.getD i default)
def kx (f : Fd) : List Fd := (b5 (f.rhs &&& ~~~f.lhs)).map fun a => (⟨f.lhs, (1 : AS) <<< a⟩ : Fd)
def er (l : List Fd) : List Fd := (l.map kx).flatten
def kr (l : List Fd) (i k : Nat) : List Fd := er (l.take i) ++ (kx (l.getD i default)).take k
theorem xa (f : Fd) : (kx f).length = (b5 (f.rhs &&& ~~~f.lhs)).length := by unfold kx; rw [List.length_map]
theorem xt (s : AS) : (b5 s).length ≤ 32 := by rw [← a9d]; exact al2 s
theorem a2e (l : List Fd) (i : Nat) : kr l i 0 = er (l.take i) := by unfold kr; rw [List.take_zero, List.append_nil]
theorem a2u {l : List Fd} {i k : Nat} {m : List Nat} (hm : m = b5 ((l.getD i default).rhs &&& ~~~(l.getD i default).lhs)) (hk : k < m.length) : kr l i (k + 1) = kr l i k ++ [⟨(l.getD i default).lhs, (1 : AS) <<< m.getD k default⟩] := by
 subst hm
 unfold kr
 generalize l.getD i default = x at *
 rw [List.take_add_one, List.append_assoc]
 congr 1
 congr 1
 unfold kx
 rw [List.getElem?_map, List.getElem?_eq_getElem hk, List.getD_eq_getElem?_getD, List.getElem?_eq_getElem hk]
 rfl
theorem a60 {l : List Fd} {i : Nat} (hi : i < l.length) {k : Nat} (hk : k = (b5 ((l.getD i default).rhs &&& ~~~(l.getD i default).lhs)).length) : kr l i k = er (l.take (i + 1)) := by
 subst hk
 unfold kr er
 rw [← xa, List.take_length, bt hi, List.map_append, List.flatten_append]
 simp
theorem y9 (l : List Fd) : (er l).length ≤ 32 * l.length := by
 induction l with
 | nil => simp [er]
 | cons x l ih =>
  have h : er (x :: l) = kx x ++ er l := by simp [er]
  have h2 := xa x
  have h3 := xt (x.rhs &&& ~~~x.lhs)
  rw [h, List.length_append, List.length_cons]
  omega
theorem aif {l : List Fd} {i k : Nat} (hi : i ≤ l.length) : (kr l i k).length ≤ 32 * l.length + 32 := by
 have h1 := y9 (l.take i)
 have h2 := xt ((l.getD i default).rhs &&& ~~~(l.getD i default).lhs)
 rw [List.length_take] at h1
 unfold kr
 rw [List.length_append, List.length_take, xa]
 omega
def exB (l : List Fd) (x : Fd) (a : Nat) : Bool := imp l ⟨x.lhs &&& ~~~((1 : AS) <<< a), x.rhs⟩
theorem a10 (s : AS) (a : Nat) : ca .andNot .u32 (asI s) (IntKind.wrap .u32 (1 * 2 ^ (min a 32))) = asI (s &&& ~~~((1 : AS) <<< a)) := by
 rw [show IntKind.wrap .u32 (1 * 2 ^ (min a 32)) = asI ((1 : AS) <<< a) from ahn 1 a, zp]
theorem aw4 (a : Nat) : IntKind.wrap .u32 (1 * 2 ^ (min a 32)) = asI ((1 : AS) <<< a) := ahn 1 a
def ck (l : List Fd) (i : Nat) : List Fd := l.take i ++ l.drop (i + 1)
def nc (l : List Fd) (i : Nat) : Bool := imp (ck l i) (l.getD i default)
theorem iq {l : List Fd} {i : Nat} (hi : i < l.length) : (ck l i).length = l.length - 1 := by unfold ck; rw [List.length_append, List.length_take, List.length_drop]; omega
end Go.Hx
end
section
namespace Go.Hx
open Go.Proofs Go.Lib Go.RowKit
set_option maxHeartbeats 4000000 in
set_option maxRecDepth 100000 in
theorem adq (k : Nat) (hk : 0 < k) (hbig : k * 8 ≤ 140737488355328) (w : World) (ad : Option Addr) :
 Calls Tryz.prog 236 #[.slice ad 0 0, .int .i64 k] w fun e w' => ∃ G ROW, e = .returned (.slice (some ⟨w.heap.size, 0, none⟩) 0 G) ∧ G ≤ maxLen ∧ w' = w.drew.alloc (.cells ROW 40) ∧ ROW.size = G * 2 := by
 obtain ⟨i0, z, hi0, hz0, hzs, hzb, hzc⟩ : ∃ i0 z, Tryz.prog.info? 40 = some i0 ∧ i0.zero = some z ∧ i0.size = 2 ∧ i0.bytes = 8 ∧ z.cells.size = 2 := by
  have h : (Tryz.prog.info? 40).map (fun i => (i.zero.map (fun z => z.cells.size), i.size, i.bytes)) = some (some 2, 2, 8) := by kernel_rfl
  cases hq : Tryz.prog.info? 40 with
  | none => rw [hq] at h; cases h
  | some i0 =>
   rw [hq] at h
   cases hz : i0.zero with
   | none => simp [hz] at h
   | some z => simp [hz] at h; exact ⟨i0, z, rfl, hz, h.2.1, h.2.2, h.1⟩
 have hc : 0 + k ≤ maxLen := by unfold maxLen; omega
 have hold : (Builtin.firstCells i0.size 0 (.slice ad 0 0)).run Tryz.prog w.drew = .ok (([] : List Value)).toArray w.drew := by
  cases ad with
  | none => exact run_firstCells_none w.drew _ _ _ _
  | some a => exact run_firstCells_some w.drew _ 0 a 0 0 [] (by simp) (fun j v hj => by simp at hj)
 obtain ⟨G, hG⟩ : ∃ G, G = grownCap w (0 + k) 0 40 := ⟨_, rfl⟩
 have hGn : 0 + k ≤ G := by rw [hG]; exact grownCap_ge w _ _ _
 have hGm : G ≤ maxLen := by rw [hG]; exact grownCap_le_maxLen w (0 + k) 0 40 hc
 obtain ⟨ROW, hROW⟩ : ∃ ROW : Array Value, ROW = ([] : List Value).toArray ++ Builtin.zeroCells z.cells k ++ Builtin.zeroCells z.cells (G - (0 + k)) := ⟨_, rfl⟩
 have hrz : (Builtin.append_ #[27, 3] 27 #[.slice ad 0 0, .int .i64 (k : Int)]).run Tryz.prog w = .ok (.slice (some ⟨w.heap.size, 0, none⟩) k G) (w.drew.alloc (.cells ROW 40)) := by
  have h := Lib.run_append_grow_zeros w 27 3 27 40 i0 z .i64 .i64 Tryz.underlying27 Tryz.underlying3 hi0 hz0 ad 0 0 [] hold k hk (by omega) (by omega) (by unfold maxLen at hc; omega) (by rw [hzb]; omega) (by rw [hzb, Nat.zero_add]; exact growslice_fits (by omega) hbig)
  rw [← hG, ← hROW] at h
  rw [h]
  simp
 have hRs : ROW.size = G * 2 := by
  rw [hROW]
  simp only [Array.size_append, List.size_toArray, List.length_nil, size_zeroCells, hzc]
  omega
 have mixed := ar
 have hcM : G ≤ 9223372036854775807 := by unfold maxLen at hGm; omega
 have hk0 : ¬ ((k : Int) < 0) := by omega
 have hk1 : (0 : Int) < (k : Int) := by omega
 have hw1 : IntKind.i64.wrap (k : Int) = (k : Int) := by rw [IntKind.wrap_i64]; omega
 clear hG hROW hold
 rcases ad with _ | ⟨ab, ao, asp⟩
 all_goals go_enter Tryz.func236, Tryz.ntmps236
 all_goals go_wp2_with (at_builtin; refine Lib.wpList_append_run _ rfl _ _ _ _ rfl _ _ rfl rfl _ _ hrz ?_)
 all_goals go_ret
 all_goals first | exact ⟨G, ROW, rfl, hGm, rfl, hRs⟩ | exact ⟨G, rfl, hGm, ROW, rfl, hRs⟩
theorem ads (w : World) (ad : Option Addr) : Calls Tryz.prog 236 #[.slice ad 0 0, .int .i64 0] w fun e w' => e = .returned (.slice ad 0 0) ∧ w' = w := by
 have mixed := ar
 go_enter Tryz.func236, Tryz.ntmps236
 go_wp2
 go_ret
 exact ⟨rfl, rfl⟩
theorem b0w (k a : Nat) (hk : k ≤ 68719476736) (F : Nat → Nat → PV) :
 ee Tryz.prog 236 [.one (.p (l8 (.slice none 0 0))), .one (.p (.raw (.int .i64 k)))] [] (.v (.one (.ref a 0))) [(a, .arr true 2 40 0 F)] [] := by
 refine ar0 (by omega) fun w ad => ?_
 rcases Nat.eq_zero_or_pos k with rfl | hk0
 · refine (ads w ad).mono ?_
   rintro e w' ⟨rfl, rfl⟩
   exact ⟨_, rfl, Below.refl _ _, .inl rfl⟩
 · refine (adq k hk0 (by omega) w ad).mono ?_
   rintro e w' ⟨G, ROW, rfl, hG, rfl, hR⟩
   refine ⟨_, rfl, ⟨rfl, rfl, rfl, ?_, fun q hq => ay4 w.drew _ hq, Nat.le_succ _⟩, .inr ⟨⟨by simp, .inr ⟨_, G, ROW, rfl, Nat.zero_le _, heap_alloc_new w.drew _, Nat.zero_le _, hG, hR, by simp⟩⟩, fun g hg => ?_⟩⟩
   · show _ ≤ (w.heap.push _).size
     rw [Array.size_push]; omega
   · have : w.heap.size = g := by simpa [ct] using hg
     omega
end Go.Hx
end
section
namespace Go.Hx
open Go.Proofs
set_option maxRecDepth 100000
theorem aew : goodFn Tryz.prog 205 := ⟨Tryz.f205, Tryz.func205, by kernel_rfl, by kernel_rfl⟩
theorem amv (l : List Fd) (hl : l.length ≤ 16777216) : ee Tryz.prog 205 [.one (.p (fdl l))] [] (.v (.one (.ref 900 (fl l).length))) [(900, .arr true 2 40 (fl l).length (lf Fd.c (fl l)))] [] := by
 refine gl (nt := 22) af Tryz.func205 rfl rfl l9 rfl ?_; refine sx7 ?_; refine qy ?_; refine a6 ?_; refine sx7 ?_; refine qy ?_; refine a6 ?_; (iterate 2 refine a7 ?_)
 refine d1 0 rfl fun hn => ?_
 refine gy ?_; (iterate 3 refine qy ?_); refine a6 ?_; refine ae ?_
 refine dp 3 900 true 2 40 (lf Fd.c []) (by decide) rfl (CoP.sl rfl (.inr rfl) (fun h => h) (fun i j hi _ => absurd hi (Nat.not_lt_zero i))) (.inr rfl) rfl ?_
 refine ai (ι := Nat) ⟨[(6, some _), (7, some _)], []⟩ ⟨⟨c9, c9, trivial⟩, trivial⟩ (fun i => ⟨[(3, some (.v (.one (.ref 900 (fl (l.take i)).length)))), (8, some (vI i))], [(900, some (.arr true 2 40 (fl (l.take i)).length (lf Fd.c (fl (l.take i)))))]⟩) (fun i => i ≤ l.length) (fun i => l.length - i) (0) (Nat.zero_le _) ⟨⟨zy, zy, trivial⟩, ⟨u9, trivial⟩⟩ ?_
 rintro i hi
 have hlen := a02 (l.take i)
 rw [List.length_take] at hlen
 refine sx7 ?_; refine qy ?_; refine a6 ?_; refine a7 ?_; refine a8 _ rfl (fun r0 => ?_) (fun r0 => ?_)
 ·
  have h0 := of_decide_eq_true r0
  try simp only [ty] at h0
  refine aa ?_; refine a7 ?_; refine ae ?_; refine sx7 ?_; (iterate 2 refine qy ?_); refine m9 0 ?_; refine s9 ?_; refine a6 ?_; refine sx7 ?_; (iterate 2 refine qy ?_)
  refine rc rfl rfl rfl rfl rfl rfl att (b2j (fl (l.take i)) (l.getD i default)) (CoL.refl _) rfl rfl ?_; refine qy ?_; refine a6 ?_; refine a8 _ rfl (fun r1 => ?_) (fun r1 => ?_)
  ·
   have h1 := r1
   have h1 := ax h1
   have hc := ax r1
   refine gy ?_; (iterate 2 refine qy ?_); refine m9 1 ?_; refine ra 2 true rfl rfl rfl rfl rfl rfl ?_; refine qy ?_; refine a6 ?_; refine gy ?_; (iterate 2 refine qy ?_); refine a6 ?_
   first | (refine ⟨i + 1, ?_, ?_, ?_⟩
            · show i + 1 ≤ _; omega
            · first | omega | (dsimp only; omega)
            · exact ⟨⟨⟨_, rfl, (dc (a18 (by omega) hc))⟩, zy, c9, c9, trivial⟩, ⟨⟨_, rfl, (j3 (a18 (by omega) hc) (CoP.refl _) (CoP.refl _))⟩, trivial⟩⟩)
         | (refine ⟨i + 1, ?_, ?_, ?_⟩
            · show i + 1 ≤ _; omega
            · first | omega | (dsimp only; omega)
            · exact ⟨⟨⟨_, rfl, (fu (a1s (by omega) hc))⟩, zy, c9, c9, trivial⟩, ⟨⟨_, rfl, (dy (a1s (by omega) hc))⟩, trivial⟩⟩)
  ·
   have h1 := r1
   have h1 := aw h1
   have hc := aw r1
   refine aa ?_; refine gy ?_; (iterate 2 refine qy ?_); refine a6 ?_
   first | (refine ⟨i + 1, ?_, ?_, ?_⟩
            · show i + 1 ≤ _; omega
            · first | omega | (dsimp only; omega)
            · exact ⟨⟨⟨_, rfl, (dc (a18 (by omega) hc))⟩, zy, c9, c9, trivial⟩, ⟨⟨_, rfl, (j3 (a18 (by omega) hc) (CoP.refl _) (CoP.refl _))⟩, trivial⟩⟩)
         | (refine ⟨i + 1, ?_, ?_, ?_⟩
            · show i + 1 ≤ _; omega
            · first | omega | (dsimp only; omega)
            · exact ⟨⟨⟨_, rfl, (fu (a1s (by omega) hc))⟩, zy, c9, c9, trivial⟩, ⟨⟨_, rfl, (dy (a1s (by omega) hc))⟩, trivial⟩⟩)
 ·
  have h0 := of_decide_eq_false r0
  try simp only [ty] at h0
  obtain rfl : i = l.length := by omega
  refine ak ?_; refine sx7 ?_; (iterate 2 refine qy ?_); refine a6 ?_; refine am ?_; refine ⟨.inr rfl, ?_⟩
  exact ⟨_, _, rfl, (by (repeat' apply And.intro) <;> first | trivial | exact Nat.le_of_ble_eq_true rfl), CoR.of_eq (by rw [List.take_length]; rfl), ⟨⟨_, rfl, iu (by rw [List.take_length]) (by rw [List.take_length])⟩, trivial⟩⟩
theorem b10 (l : List Fd) (hl : l.length ≤ 16777216) : ah Tryz.prog 205 [pP (fdl l)] (ap [pP (fdl (fl l))]) :=
 ee.pure (args := [pP (fdl l)]) (l := [.one (.ref 900 (fl l).length)]) (amv l hl) rfl ⟨rfl, trivial⟩
end Go.Hx
end
section
namespace Go.Hx
theorem aqk {α : Type} [Inhabited α] {s n k' : Nat} {k : Int} {cl : Bool} {c : α → Nat → PV} {l : List α} (h : k.toNat = k') (hk : k' ≤ l.length) :
 CoP (.sl (im (c4 n (some k)) none) s cl (n4 (lf c l) none)) (psl s c (l.take k')) := by
 subst h; exact av9 hk
theorem aoy {α : Type} [Inhabited α] {s n k' : Nat} {k : Int} {cl : Bool} {c : α → Nat → PV} {l : List α} (hn : n = l.length) (h : k.toNat = k') : CoP (.sl (im n (some k)) s cl (n4 (lf c l) (some k))) (psl s c (l.drop k')) := by
 subst h hn; exact aw8
theorem abt {l : List Fd} {i : Nat} : [l.take i, l.drop (i + 1)].flatten = ck l i := by simp [ck]
theorem awg {l : List Fd} {i : Nat} (hi : i < l.length) (hl : l.length ≤ 16777216) : [l.take i, l.drop (i + 1)].flatten.length ≤ 16777216 := by
 rw [abt, iq hi]
 omega
theorem b16 {x : Fd} {b : Int} {s : AS} (h : b = asI s) : CoC (.agg [.raw (.int .u32 b), .raw (.int .u32 (asI x.rhs))]) (Fd.pc ⟨s, x.rhs⟩) := by
 subst h
 exact CoC.refl _
end Go.Hx
end
section
namespace Go.Hx
open Go.Proofs
set_option maxRecDepth 100000
def rwC (l : List Fd) : Nat → PV
 | 0 => fdl l
 | _ => .any
abbrev b2l (ls : List (List Fd)) : PV := psl 1 rwC ls
theorem awl : goodFn Tryz.prog 236 := ⟨Tryz.f236, Tryz.func236, by kernel_rfl, by kernel_rfl⟩
theorem awf : goodFn Tryz.prog 228 := ⟨Tryz.f228, Tryz.func228, by kernel_rfl, by kernel_rfl⟩
theorem at8 (ls : List (List Fd)) (h : ls.flatten.length ≤ 16777216) : ah Tryz.prog 228 [pP (b2l ls)] (ap [pP (fdl ls.flatten)]) := by
 refine ag (nt := 36) af Tryz.func228 rfl rfl l9 ?_; refine sx7 ?_; refine qy ?_; refine a6 ?_; refine sx7 ?_; refine qy ?_; refine a6 ?_; (iterate 2 refine a7 ?_); refine d1 0 rfl (fun hn => ?_)
 refine gy ?_; (iterate 3 refine qy ?_); refine a6 ?_; refine ae ?_
 refine ai (ι := Nat) ⟨[(0, some _), (9, some _), (10, some _)], []⟩ ⟨⟨c9, c9, c9, trivial⟩, trivial⟩ (fun i => ⟨[(3, some (vI (ls.take i).flatten.length)), (11, some (vI i))], []⟩) (fun i => i ≤ ls.length) (fun i => ls.length - i) (0) (Nat.zero_le _) ⟨⟨zy, zy, trivial⟩, trivial⟩ ?_
 rintro i hi
 refine sx7 ?_; refine qy ?_; refine a6 ?_; refine a7 ?_; refine a8 _ rfl (fun r0 => ?_) (fun r0 => ?_)
 ·
  have h0 := of_decide_eq_true r0
  try simp only [ty] at h0
  have hts : (ls.take (i + 1)).flatten.length = (ls.take i).flatten.length + (ls.getD ((i : Nat) : Int).toNat default).length := by rw [tsf _ _ (by omega), List.length_append]; rfl
  have hfl : (ls.take i).flatten.length + (ls.getD ((i : Nat) : Int).toNat default).length ≤ ls.flatten.length := a04 ls i (by omega)
  refine aa ?_; refine a7 ?_; refine ae ?_; refine sx7 ?_; (iterate 3 refine qy ?_); refine a6 ?_; refine sx7 ?_; (iterate 5 refine qy ?_); refine a6 ?_; refine sx7 ?_; (iterate 2 refine qy ?_)
  refine a6 ?_; refine a8 _ rfl (fun r1 => ?_) (fun r1 => ?_)
  ·
   have h1 := of_decide_eq_true r1
   try simp only [ty] at h1
   exfalso
   omega
  ·
   have h1 := of_decide_eq_false r1
   try simp only [ty] at h1
   refine aa ?_; refine gy ?_; (iterate 2 refine qy ?_); refine a6 ?_; refine ⟨i + 1, ?_, ?_, ?_⟩
   · show i + 1 ≤ _
     omega
   · first | omega | (dsimp only; omega)
   · exact ⟨⟨zy, zy, c9, c9, c9, trivial⟩, trivial⟩
 ·
  have h0 := of_decide_eq_false r0
  try simp only [ty] at h0
  obtain rfl : i = ls.length := by omega
  have hfe : (ls.take ls.length).flatten.length = ls.flatten.length := by rw [List.take_length]
  refine ak ?_; refine sx7 ?_; refine qy ?_; refine cz rfl rfl rfl rfl rfl rfl awl (b0w (ls.take ls.length).flatten.length 900 (by omega) (lf Fd.c [])) (fk.refl _) trivial rfl rfl ?_; refine qy ?_
  refine a6 ?_; refine a7 ?_; refine sx7 ?_; (iterate 3 refine qy ?_); refine a6 ?_; refine ae ?_
  refine ai (ι := Nat) ⟨[(25, some _), (26, some _)], []⟩ ⟨⟨c9, c9, trivial⟩, trivial⟩ (fun i => ⟨[(6, some (.v (.one (.ref 900 (ls.take i).flatten.length)))), (27, some (vI i))], [(900, some (.arr true 2 40 (ls.take i).flatten.length (lf Fd.c (ls.take i).flatten)))]⟩) (fun i => i ≤ ls.length) (fun i => ls.length - i) (0) (Nat.zero_le _) ⟨⟨zy, zy, trivial⟩, ⟨u9, trivial⟩⟩ ?_
  rintro i hi
  refine sx7 ?_; refine qy ?_; refine a6 ?_; refine a7 ?_; refine a8 _ rfl (fun r2 => ?_) (fun r2 => ?_)
  ·
   have h2 := of_decide_eq_true r2
   try simp only [ty] at h2
   have hts : (ls.take (i + 1)).flatten.length = (ls.take i).flatten.length + (ls.getD ((i : Nat) : Int).toNat default).length := by rw [tsf _ _ (by omega), List.length_append]; rfl
   have hfl : (ls.take i).flatten.length + (ls.getD ((i : Nat) : Int).toNat default).length ≤ ls.flatten.length := a04 ls i (by omega)
   refine aa ?_; refine a7 ?_; refine ae ?_; refine sx7 ?_; (iterate 3 refine qy ?_); refine a6 ?_; refine gy ?_; (iterate 2 refine qy ?_); refine ra 0 true rfl rfl rfl rfl rfl rfl ?_; refine qy ?_
   refine a6 ?_; refine gy ?_; (iterate 2 refine qy ?_); refine a6 ?_; refine ⟨i + 1, ?_, ?_, ?_⟩
   · show i + 1 ≤ _
     omega
   · first | omega | (dsimp only; omega)
   · exact ⟨⟨⟨_, rfl, (CoR.of_eq (by rw [hts]))⟩, zy, c9, c9, trivial⟩, ⟨⟨_, rfl, (by rw [tsf _ _ (by omega)]; exact am8 _ (fun h => h) rfl (fun i j hi hj => CoP.refl _))⟩, trivial⟩⟩
  ·
   have h2 := of_decide_eq_false r2
   try simp only [ty] at h2
   obtain rfl : i = ls.length := by omega
   refine ak ?_; refine sx7 ?_; (iterate 2 refine qy ?_); refine a6 ?_; refine am ?_; refine ⟨.inr rfl, ?_⟩
   rw [show ls.flatten = (ls.take ls.length).flatten by rw [List.take_length]]
   exact f9 rfl rfl (CoL.refl _)
theorem aex : goodFn Tryz.prog 207 := ⟨Tryz.f207, Tryz.func207, by kernel_rfl, by kernel_rfl⟩
theorem af7 (l : List Fd) (i : Nat) (hi : i < l.length) (hl : l.length ≤ 16777216) : ah Tryz.prog 207 [pP (fdl l), pI i] (ap [pP (fdl (ck l i))]) := by
 refine ag (nt := 14) af Tryz.func207 rfl rfl l9 ?_; refine sx7 ?_; refine qy ?_; refine a6 ?_; refine a7 ?_
 have hll := awg hi hl
 refine b7 (E := bm) af ar [0, 1, 2, 3, 4, 5, 6, 7, 8, 9] ?_; (iterate 7 refine qy ?_); refine m9 0 ?_
 refine cz rfl rfl rfl rfl rfl rfl awf (ah.eat (hcs := [.one (.ref 0 2)]) (o1 := [(0, .arr true 1 27 2 (lf rwC [l.take i, l.drop (i + 1)]))]) (at8 [l.take i, l.drop (i + 1)] hll) rfl (by (repeat' apply And.intro) <;> first | trivial | rfl) (CoL.refl _)) (fk.refl _) ⟨⟨_, rfl, ⟨fun h => h, rfl, rfl, rfl, fun i j hi hj => (by have hi : i < 2 := hi; have hj : j < 1 := hj; obtain rfl : j = 0 := (by omega); rcases (show i = 0 ∨ i = 1 by omega) with rfl | rfl; exact aqk rfl (by omega); exact aoy rfl (by omega))⟩⟩, trivial⟩ rfl rfl ?_
 refine qy ?_; refine a6 ?_; refine ⟨by kernel_rfl, ?_⟩
 exact hx8 rfl rfl rfl (⟨CoC.one (CoP.of_eq (by rw [abt])), trivial⟩)
theorem avl : goodFn Tryz.prog 206 := ⟨Tryz.f206, Tryz.func206, by kernel_rfl, by kernel_rfl⟩
theorem azi (l : List Fd) (i : Nat) (hi : i < l.length) (hl : l.length ≤ 16777216) : ah Tryz.prog 206 [pP (fdl l), pI i] (ap [pB (nc l i)]) := by
 refine ag (nt := 13) af Tryz.func206 rfl rfl l9 ?_; refine sx7 ?_; refine qy ?_; refine a6 ?_; refine a7 ?_; refine b7 (E := bm) af ar [0, 1, 2, 3, 4, 5, 6, 7, 8] ?_; (iterate 2 refine qy ?_)
 refine rc rfl rfl rfl rfl rfl rfl aex (af7 l i hi hl) (CoL.refl _) rfl rfl ?_; (iterate 4 refine qy ?_); refine rc rfl rfl rfl rfl rfl rfl ag7 (b0e (ck l i) (l.getD i default)) (CoL.refl _) rfl rfl ?_
 refine qy ?_; refine a6 ?_; refine ⟨by kernel_rfl, ?_⟩
 exact hx8 rfl rfl rfl (CoL.refl _)
theorem axa : goodFn Tryz.prog 204 := ⟨Tryz.f204, Tryz.func204, by kernel_rfl, by kernel_rfl⟩
theorem azg (l : List Fd) (x : Fd) (a : Nat) : ah Tryz.prog 204 [pP (fdl l), x.pc, pI a] (ap [pB (exB l x a)]) := by
 refine ag (nt := 17) af Tryz.func204 rfl rfl l9 ?_; refine sx7 ?_; refine m9 0 ?_; refine qy ?_; refine a6 ?_; refine a7 ?_; refine b7 (E := bm) af ar [0, 1, 2, 3, 4, 5, 6, 7, 8, 9, 10] ?_
 (iterate 9 refine qy ?_); refine rc rfl rfl rfl rfl rfl rfl ag7 (b0e l ⟨x.lhs &&& ~~~((1 : AS) <<< a), x.rhs⟩) (⟨CoC.refl _, b16 (a10 _ _), trivial⟩) rfl rfl ?_; refine qy ?_; refine a6 ?_
 refine ⟨by kernel_rfl, ?_⟩
 exact hx8 rfl rfl rfl (CoL.refl _)
end Go.Hx
end
section
namespace Go.Hx
def b37 (l : List Fd) (i k : Nat) : List Fd := er (l.take i) ++ (fh ((l.getD i default).rhs &&& ~~~(l.getD i default).lhs) k).map fun a => (⟨(l.getD i default).lhs, (1 : AS) <<< a⟩ : Fd)
def y7 (x : Fd) (a : Nat) : Fd := ⟨x.lhs &&& ~~~((1 : AS) <<< a), x.rhs⟩
def dt (i : Nat) (l : List Fd) (a : Nat) : List Fd := if cn (l.getD i default).lhs a && exB l (l.getD i default) a then l.set i (y7 (l.getD i default) a) else l
def mj (l : List Fd) (i k : Nat) : List Fd := ((b5 (l.getD i default).lhs).take k).foldl (dt i) l
def x4 (l : List Fd) (i : Nat) : List Fd := (b5 (l.getD i default).lhs).foldl (dt i) l
def gi (l : List Fd) (i : Nat) : List Fd := (List.range i).foldl x4 l
theorem yj {i a : Nat} {l : List Fd} : (dt i l a).length = l.length := by
 unfold dt
 split
 · rw [List.length_set]
 · rfl
theorem a0r {i : Nat} : ∀ (m : List Nat) (l : List Fd), (m.foldl (dt i) l).length = l.length
 | [], l => rfl
 | a :: m, l => by rw [List.foldl_cons, a0r m, yj]
theorem ab1 {l : List Fd} {i k : Nat} : (mj l i k).length = l.length := a0r _ _
theorem aqs {l : List Fd} {i : Nat} : (x4 l i).length = l.length := a0r _ _
theorem jm {l : List Fd} : ∀ {i : Nat}, (gi l i).length = l.length
 | 0 => rfl
 | i + 1 => by
  unfold gi
  rw [List.range_succ, List.foldl_append]
  show (x4 ((List.range i).foldl x4 l) i).length = _
  rw [aqs]
  exact jm (i := i)
theorem nq (l : List Fd) (i : Nat) : gi l (i + 1) = x4 (gi l i) i := by
 unfold gi
 rw [List.range_succ, List.foldl_append]
 rfl
theorem ajh (l : List Fd) (i : Nat) : mj l i 0 = l := by unfold mj; rw [List.take_zero]; rfl
theorem apw {l : List Fd} {i k : Nat} (hk : k = (b5 (l.getD i default).lhs).length) : mj l i k = x4 l i := by
 unfold mj x4
 rw [hk, List.take_length]
theorem ug {l : List Fd} {i k : Nat} (hk : k < (b5 (l.getD i default).lhs).length) : mj l i (k + 1) = dt i (mj l i k) ((b5 (l.getD i default).lhs).getD k default) := by
 unfold mj
 rw [bt hk, List.foldl_append]
 rfl
theorem uv {l : List Fd} {i : Nat} {x : Fd} (hi : i < l.length) : (l.set i x).getD i default = x := by simp [List.getD, hi]
theorem aq8 {i a b : Nat} {l : List Fd} (hi : i < l.length) (hb : b < 32) (hne : b ≠ a) : ((dt i l a).getD i default).lhs.getLsbD b = (l.getD i default).lhs.getLsbD b := by
 unfold dt
 split
 · rw [uv hi]
   show ((l.getD i default).lhs &&& ~~~((1 : AS) <<< a)).getLsbD b = _
   rw [BitVec.getLsbD_and, BitVec.getLsbD_not, eg _ _ hb]
   simp [hb, hne]
 · rfl
theorem a93 {i b : Nat} (hb : b < 32) : ∀ (m : List Nat) (l : List Fd), i < l.length → (∀ a ∈ m, b ≠ a) → ((m.foldl (dt i) l).getD i default).lhs.getLsbD b = (l.getD i default).lhs.getLsbD b
 | [], l, _, _ => rfl
 | a :: m, l, hi, h => by
  rw [List.foldl_cons, a93 hb m _ (by rw [yj]; exact hi) fun c hc => h c (List.mem_cons_of_mem _ hc), aq8 hi hb (h a List.mem_cons_self)]
theorem ahc (s : AS) : (b5 s).Pairwise (· < ·) := List.Pairwise.filter _ List.pairwise_lt_range
theorem aav {m : List Nat} {k : Nat} (hk : k < m.length) : m.getD k default = m[k] := by simp [List.getD, hk]
theorem ajs {m : List Nat} {k : Nat} (hk : k < m.length) : m.getD k default ∈ m := by rw [aav hk]; exact List.getElem_mem hk
theorem ang {l : List Fd} {i k : Nat} (hi : i < l.length) (hk : k < (b5 (l.getD i default).lhs).length) : cn ((mj l i k).getD i default).lhs (((b5 (l.getD i default).lhs).getD k default : Nat) : Int) = true := by
 have hm : (b5 (l.getD i default).lhs).getD k default ∈ b5 (l.getD i default).lhs := ajs hk
 obtain ⟨h1, h2⟩ := ip.1 hm
 rw [ff h1]
 unfold mj
 rw [a93 h1 _ _ hi, h2]
 intro a ha
 obtain ⟨j, hj, rfl⟩ := List.getElem_of_mem ha
 rw [List.length_take] at hj
 rw [List.getElem_take, aav hk]
 have := List.pairwise_iff_getElem.1 (ahc (l.getD i default).lhs) j k (by omega) hk (by omega)
 exact Nat.ne_of_gt this
theorem ac4 {i a : Nat} {l : List Fd} (h : cn (l.getD i default).lhs a = true) (h2 : exB l (l.getD i default) a = true) : dt i l a = l.set i (y7 (l.getD i default) a) := by unfold dt; rw [h, h2]; rfl
theorem aa6 {i a : Nat} {l : List Fd} (h2 : exB l (l.getD i default) a = false) : dt i l a = l := by unfold dt; rw [h2]; simp
theorem alg {i a : Nat} {l : List Fd} (h : cn (l.getD i default).lhs a = false) : dt i l a = l := by unfold dt; rw [h]; rfl
theorem aes {wr wr' : Bool} {n k i a : Nat} {e : TypeId} {l l' : List Fd} {v : Int} (hl : l' = l.set i (y7 (l.getD i default) a)) (hv : v = asI ((l.getD i default).lhs &&& ~~~((1 : AS) <<< a))) (hk : k = i) (hi : i < l.length) (hn : n = l.length) (hw : wr' = true → wr = true := by exact fun h => h) :
 CoO (.arr wr 2 e n (fb (lf Fd.c l) k 0 [.raw (.int .u32 v)])) (.arr wr' 2 e n (lf Fd.c l')) := by
 subst hl hv hk hn
 refine ⟨hw, rfl, rfl, rfl, fun r j hr hj => CoP.of_eq ?_⟩
 unfold fb lf
 by_cases h : r = k
 · subst h
   rw [uv hi]
   rcases (by omega : j = 0 ∨ j = 1) with rfl | rfl
   · rw [if_pos ⟨rfl, Nat.le_refl _, by simp⟩]
     rfl
   · rw [if_neg (by simp)]
     rfl
 · rw [if_neg (by omega), getD_set_ne' h]
theorem agp {n : Nat} {cl : Bool} {l : List Fd} (h : n = l.length) : CoP (.sl n 2 cl (lf Fd.c l)) (fdl l) := CoP.sl h.symm (.inl rfl) (fun h => by cases h) fun _ _ _ _ => CoP.refl _
def gw : Nat → List Fd → Nat → List Fd
 | 0, l, _ => l
 | f + 1, l, i => if i < l.length then (if nc l i then gw f (ck l i) i else gw f l (i + 1)) else l
theorem agj {l : List Fd} {i : Nat} (hi : i < l.length) (h : nc l i = true) : gw (l.length - i) l i = gw ((ck l i).length - i) (ck l i) i := by
 rw [iq hi, show l.length - i = (l.length - 1 - i) + 1 by omega]
 show (if i < l.length then (if nc l i then _ else _) else l) = _
 rw [if_pos hi, h]
 rfl
theorem af1 {l : List Fd} {i : Nat} (hi : i < l.length) (h : nc l i = false) : gw (l.length - i) l i = gw (l.length - (i + 1)) l (i + 1) := by
 rw [show l.length - i = (l.length - (i + 1)) + 1 by omega]
 show (if i < l.length then (if nc l i then _ else _) else l) = _
 rw [if_pos hi, h]
 rfl
theorem al1 {l : List Fd} {i : Nat} (hi : ¬ i < l.length) : gw (l.length - i) l i = l := by rw [show l.length - i = 0 by omega]; rfl
def spl (l : List Fd) : List Fd := fl (er l)
def u5 (l : List Fd) : List Fd := fl (gi (spl l) (spl l).length)
def jq (l : List Fd) : List Fd := gw (u5 l).length (u5 l) 0
theorem ago (l : List Fd) : (spl l).length ≤ 32 * l.length := Nat.le_trans (a02 _) (y9 l)
theorem a4r (l : List Fd) : (u5 l).length ≤ 32 * l.length := Nat.le_trans (a02 _) (by rw [jm]; exact ago l)
def oi (t : AS) (l : List Fd) : Prop := ∀ x ∈ l, sub x.lhs t
theorem av0 {t : AS} {i a : Nat} {l : List Fd} (h : oi t l) : oi t (dt i l a) := by
 unfold dt
 split
 · rename_i hc
   intro x hx
   rcases List.mem_or_eq_of_mem_set hx with hx | rfl
   · exact h x hx
   · by_cases hi : i < l.length
     · have := h (l.getD i default) (by rw [List.getD_eq_getElem?_getD, List.getElem?_eq_getElem hi]; exact List.getElem_mem hi)
       refine b6 (az.2 fun k hk hb => ?_) this
       have hb : ((l.getD i default).lhs &&& ~~~((1 : AS) <<< a)).getLsbD k = true := hb
       rw [BitVec.getLsbD_and, Bool.and_eq_true] at hb
       exact hb.1
     · rw [List.set_eq_of_length_le (by omega)] at hx
       exact h _ hx
 · exact h
theorem adp {t : AS} {i : Nat} : ∀ (m : List Nat) (l : List Fd), oi t l → oi t (m.foldl (dt i) l)
 | [], _, h => h
 | a :: m, l, h => adp m _ (av0 h)
theorem aen {t : AS} {l : List Fd} (h : oi t l) : ∀ i, oi t (gi l i)
 | 0 => h
 | i + 1 => by rw [nq]; exact adp _ _ (aen h i)
theorem axt {t : AS} {l : List Fd} (h : oi t l) : oi t (spl l) := by
 intro x hx
 have hx := ir.1 hx
 unfold er at hx
 obtain ⟨ys, hys, hxy⟩ := List.mem_flatten.1 hx
 obtain ⟨f, hf, rfl⟩ := List.mem_map.1 hys
 unfold kx at hxy
 obtain ⟨a, _, rfl⟩ := List.mem_map.1 hxy
 exact h f hf
theorem aqn {n : Int} {l : List Fd} (h : av n l = 0) : oi (aq n) l := by
 obtain ⟨h0, h1, _, h3⟩ := cr h
 intro x hx
 exact ((l4 h0 h1).1 (List.all_eq_true.1 h3 x hx)).1
end Go.Hx
end
