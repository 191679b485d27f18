/- A part of the proof: SrW Cs10 V8 Cs11 Gr V9 Cs12 V10 Cs13. -/
import Derived.Shelf.SlSortCmp.NoneTotal
import Derived.Test.YtidophngianjiaaGreatDoor9x15
import Derived.Test.YtidophngianjiaaGreatDoor9x18
import Derived.Test.YtidophngianjiaaGreatDoor9x19
set_option linter.all false
section
namespace Go.Hx
open Go.Proofs Go.RowKit Go.Sort
set_option maxRecDepth 100000
theorem afh {w w' : World} (h : Below w.heap.size w w') : ∃ q os, w' = grow (w.drewN q) os := by
 refine ⟨w'.drawn - w.drawn, w'.heap.extract w.heap.size w'.heap.size, ?_⟩
 have hd := h.drawn
 obtain ⟨h1, h2, h3, h4, h5, _⟩ := h
 cases w with
 | mk hp tp dr os out =>
 cases w' with
 | mk hp' tp' dr' os' out' =>
 dsimp only at *
 subst h1 h2 h3
 unfold grow World.drewN
 simp only [World.mk.injEq, true_and, and_true]
 refine ⟨?_, by omega⟩
 apply Array.ext_getElem?
 intro k
 rw [Array.getElem?_append]
 by_cases hk : k < hp.size
 · rw [if_pos hk, h5 k hk]
 · rw [if_neg hk, Array.getElem?_extract]
   by_cases hk2 : k < hp'.size
   · rw [if_pos (by omega)]
     congr 1
     omega
   · rw [if_neg (by omega), Array.getElem?_eq_none (by omega)]
theorem agc {α : Type} [Inhabited α] {enc : α → Value} {w : World} {g m : Nat} {d : Array α} {os : Array Obj} {cur : Array Value} {e : TypeId} {fr : Nat × Nat} (h : w.heap[g]? = some (.cells cur e fr)) :
 (sortWorld enc w g 0 m d os).heap[g]? = some (.cells (putCells enc 0 d cur) e fr) := by
 have hlt := (Array.getElem?_eq_some_iff.1 h).1
 unfold sortWorld
 rw [heap_grow_old _ _ (by simpa using hlt)]
 unfold putRow mapBlock
 simp only [heap_ahead, Array.getElem?_modify, if_true, h]
 rfl
theorem wc {α : Type} [Inhabited α] {enc : α → Value} {w : World} {g m : Nat} {d : Array α} {os : Array Obj} {b : Nat} (hb : b < w.heap.size) (hne : b ≠ g) : (sortWorld enc w g 0 m d os).heap[b]? = w.heap[b]? := by
 unfold sortWorld
 rw [heap_grow_old _ _ (by simpa using hb)]
 unfold putRow mapBlock
 simp only [heap_ahead, Array.getElem?_modify, if_neg (Ne.symm hne)]
theorem af5 {α : Type} [Inhabited α] {enc : α → Value} {w : World} {g m : Nat} {d : Array α} {os : Array Obj} : Below 0 w (sortWorld enc w g 0 m d os) :=
 ⟨rfl, rfl, rfl, by unfold sortWorld; simp, fun k hk => absurd hk (Nat.not_lt_zero k), by unfold sortWorld grow; simp⟩
theorem ang {α : Type} [Inhabited α] {enc : α → Value} {d : Array α} {cur : Array Value} (h : d.size ≤ cur.size) : (putCells enc 0 d cur).toList.take d.size = d.toList.map enc := by
 apply List.ext_getElem?
 intro k
 rw [List.getElem?_take, List.getElem?_map, Array.getElem?_toList, Array.getElem?_toList]
 by_cases hk : k < d.size
 · rw [if_pos hk]
   unfold putCells
   rw [Array.getElem?_mapIdx, Array.getElem?_eq_getElem (by omega), Array.getElem?_eq_getElem hk]
   simp only [Option.map_some, Nat.zero_add, Nat.sub_zero]
   rw [if_pos ⟨Nat.zero_le _, hk⟩, getElem!_pos d k hk]
 · rw [if_neg hk, Array.getElem?_eq_none (by omega)]
   rfl
theorem ah5 {P : Program} {ρ : Go.Shelf.Ren} {α : Type} [Inhabited α] (L : SlLaysF.n6 P ρ) (enc : α → Value) (h1 : ∀ x, (enc x).oneCell' = true) (cf : α → α → Int) (hO : SWO (ltOf cf)) (hT : ∀ x y, (ltOf cf) x y = false → (ltOf cf) y x = false → x = y)
 (g : Nat) (caps : Nat → PV) (hg : ∀ args w, (callFunc g args).run P w = .ok (.enter g args) w) (hc : ∀ x y, ah P g [.one (.raw (enc x)), .one (.raw (enc y))] (ap [.one (.raw (.int .i64 (cf x y)))])) (id : Nat) (e : TypeId) (l : List α) (hsz : l.length ≤ 8589934592) :
 dl P (ρ.f 6) [.one (.ref id l.length), .one (.p (.fn g 0 caps))] [(id, .arr true 1 e l.length (lf (fun x _ => .raw (enc x)) l))] (.tup [])
  [(id, .arr true 1 e l.length (lf (fun x _ => .raw (enc x)) (l.mergeSort fun x y => !(ltOf cf) y x)))] [id] := by
 intro w c us hM hus
 match us, hus with
 | [u, v], ⟨hu, hv, _⟩ =>
  obtain ⟨cs, rfl, hcl, _⟩ := hv
  have hcs : cs = [] := List.eq_nil_of_length_eq_zero hcl
  subst hcs
  have hl1 : lk [(id, aj.arr true 1 e l.length (lf (fun x _ => .raw (enc x)) l))] id = some (.arr true 1 e l.length (lf (fun x _ => .raw (enc x)) l)) := by simp [lk]
  have hu2 := (hu.2.2 _ _ _ _ hl1 rfl).2 rfl
  subst hu2
  have hob := hM.objs id _ hl1
  obtain ⟨h0, hmax, h5⟩ := hob
  have hlen : (l.mergeSort fun x y => !(ltOf cf) y x).length = l.length := List.length_mergeSort _
  have hev : ∀ f' : Nat → Nat → PV, Evo c (lk [(id, aj.arr true 1 e l.length (lf (fun x _ => .raw (enc x)) l))]) c (lk [(id, aj.arr true 1 e l.length f')]) id := fun f' =>
   .inr (.inr ⟨_, .arr true 1 e l.length f', 1, e, l.length, l.length, hl1, rfl, by simp [lk], rfl, Nat.le_refl _, fun _ => rfl, fun _ _ _ _ _ _ _ h => by cases h⟩)
  rcases Nat.eq_zero_or_pos l.length with hz | hpos
  ·
   have hl : l = [] := List.eq_nil_of_length_eq_zero hz
   subst hl
   have hform : ∃ ad cap, c.own id = .slice ad 0 cap := by
    rcases h5 with ⟨_, xs, h2, _⟩ | ⟨_, _, ad, cap, hv, _⟩
    · rcases h2.2 with ⟨hv, _⟩ | ⟨g, cap, cur, hv, _⟩
      · exact ⟨none, 0, hv⟩
      · exact ⟨_, cap, hv⟩
    · exact ⟨ad, cap, hv⟩
   obtain ⟨ad, cap, hown⟩ := hform
   have hms : ([] : List α).mergeSort (fun x y => !(ltOf cf) y x) = [] := by simp
   rw [hown, hms]
   refine (AnyF.slices_SortFunc_none { L with } ad cap (.func (.func g) #[] #[]) w).mono ?_
   rintro e' w' ⟨rfl, rfl⟩
   exact ⟨_, c, rfl, ⟨[], rfl, trivial⟩, hM, Below.refl _ _, fun _ _ _ => ⟨rfl, rfl⟩, fun id0 ob b ho hb => .inr ⟨id0, ob, ho, hb⟩, fun id0 hid => by
    rw [List.mem_singleton.1 hid]
    exact Evo.refl _ _ _⟩
  · obtain ⟨h6, xs, h2, h4⟩ : c.blk id = fw (c.own id) ∧ ∃ xs, w.ownsRow 0 e 1 (c.own id) l.length xs ∧ ∀ i j, i < l.length → j < 1 → ∃ x, xs[i * 1 + j]? = some x ∧ b6 c.imm (lf (fun x _ => .raw (enc x)) l i j) x := by
     rcases h5 with h5 | ⟨h6 | h6, _⟩
     · exact h5
     · cases h6
     · omega
    obtain ⟨hxl, hrow⟩ := h2
    rcases hrow with ⟨_, hz⟩ | ⟨b, cap, cur, hown, hbase, hheap, hnc, hcm, hcs, htake⟩
    · omega
    have hblk : c.blk id b := by rw [h6, hown]; rfl
    have hlt : b < w.heap.size := (Array.getElem?_eq_some_iff.1 hheap).1
    have hcell : ∀ j, (hj : j < l.length) → cur[j]? = some (enc l[j]) := fun j hj => by
     obtain ⟨x, hx, hr⟩ := h4 j 0 hj (by omega)
     rw [Nat.mul_one, Nat.add_zero, ← htake, List.getElem?_take, if_pos (by omega), Array.getElem?_toList] at hx
     rw [hx]
     have hr : x = enc (l.getD j default) ∧ _ := hr
     rw [hr.1, List.getD_eq_getElem?_getD, List.getElem?_eq_getElem hj]
     rfl
    have hH : Holds enc w b 0 l.toArray := fun j hj => by
     have hj : j < l.length := by simpa using hj
     rw [Nat.zero_add]
     refine ⟨?_, by simp [World.frozen?, hheap]⟩
     have : l.toArray[j]! = l[j] := by rw [getElem!_pos l.toArray j (by simpa using hj)]; simp
     rw [this]
     simp [World.cell?, hheap, hcell j hj]
    have hcmp : CmpLays1 P g #[] enc cf b 0 l.toArray.size w := by
     intro m os dk hdk x y
     have hcimm : ∀ b' ob, c.imm b' = some ob → (sortWorld enc w b 0 m dk os).heap[b']? = some ob := fun b' ob hb' => by
      have hne : b' ≠ b := fun he => by
       have := hM.sep id _ b hl1 hblk
       rw [← he, hb'] at this
       cases this
      have hw := hM.imm b' ob hb'
      rw [wc (Array.getElem?_eq_some_iff.1 hw).1 hne]
      exact hw
     have h := hc x y (sortWorld enc w b 0 m dk os) c.imm [enc x, enc y] c.tab hcimm ⟨⟨rfl, h1 x⟩, ⟨rfl, h1 y⟩, trivial⟩
     refine h.mono ?_
     rintro e' w' ⟨v, imm', rfl, hr, _, _, hb⟩
     obtain ⟨q, os', hq⟩ := afh hb
     exact ⟨by rw [hr.1], q, os', hq⟩
    have hS := Any.slices_SortFunc_total L enc h1 cf hO g #[] b 0 cap l.toArray w hg hcmp hH hlt (by rw [List.size_toArray]; omega) hT
    rw [hown]
    refine Calls.mono hS ?_
    rintro e' w' ⟨rfl, m, os, rfl⟩
    generalize hSd : (l.mergeSort fun x y => !(ltOf cf) y x) = S at *
    refine ⟨_, c, rfl, ⟨[], rfl, trivial⟩, ⟨fun id0 ob ho => ?_, fun id0 id1 ob0 ob1 b' ho0 ho1 _ _ => (gf ho0).1.trans (gf ho1).1.symm, fun b' ob hb' => ?_, fun id0 ob b' ho hb' => ?_⟩, af5,
     fun b' hb' hno => ⟨wc hb' (fun he => hno id _ hl1 (by rw [he]; exact hblk)), rfl⟩, fun id0 ob b' ho hb' => .inr ⟨id, _, hl1, by rw [← (gf ho).1]; exact hb'⟩, fun id0 hid => by
      rw [List.mem_singleton.1 hid]
      exact hev _⟩
    · obtain ⟨rfl, rfl⟩ := gf ho
      refine ⟨h0, hmax, .inl ⟨h6, S.map enc, ⟨by simp [hlen], .inr ⟨b, cap, putCells enc 0 S.toArray cur, hown, hbase, agc hheap, hnc, hcm, by simpa [putCells] using hcs, ?_⟩⟩, fun i j hi hj => ?_⟩⟩
      · have := ang (enc := enc) (d := S.toArray) (cur := cur) (by rw [List.size_toArray, hlen, hcs]; omega)
        rw [List.size_toArray, hlen] at this
        rw [Nat.mul_one]
        exact this
      · obtain rfl : j = 0 := by omega
        have hi' : i < S.length := by rw [hlen]; exact hi
        refine ⟨enc S[i], ?_, ?_⟩
        · rw [Nat.mul_one, Nat.add_zero, List.getElem?_map, List.getElem?_eq_getElem hi']
          rfl
        · show b6 c.imm (.raw (enc (S.getD i default))) _
          rw [List.getD_eq_getElem?_getD, List.getElem?_eq_getElem hi']
          exact ⟨rfl, h1 _⟩
    · have hne : b' ≠ b := fun he => by
       have := hM.sep id _ b hl1 hblk
       rw [← he, hb'] at this
       cases this
      have hw := hM.imm b' ob hb'
      rw [wc (Array.getElem?_eq_some_iff.1 hw).1 hne]
      exact hw
    · have := (gf ho).1
      subst this
      exact hM.sep id0 _ b' hl1 hb'
 | [], h => exact h.elim
 | [_], ⟨_, h⟩ => exact h.elim
 | _ :: _ :: _ :: _, ⟨_, _, h⟩ => exact h.elim
theorem vk {a b : AS} : ltOf vr a b = bef a b := amc
theorem al8 : SWO (ltOf vr) where
 irrefl x := by rw [vk]; exact a0p x
 trans x y z h k := by rw [vk] at *; exact tn h k
 ntrans x y z h k := by
  rw [vk] at *
  rw [Bool.eq_false_iff, ne_eq, mj] at *
  omega
def srt (l : List AS) : List AS := l.mergeSort fun x y => !bef y x
theorem ati : goodFn Tryz.prog 112 := ⟨Tryz.f112, Tryz.func112, by kernel_rfl, by kernel_rfl⟩
theorem axt (id : Nat) (caps : Nat → PV) (l : List AS) (hsz : l.length ≤ 8589934592) : dl Tryz.prog 112 [.one (.ref id l.length), .one (.p (.fn 113 0 caps))] [(id, .arr true 1 38 l.length (lf sC l))] (.tup [])
 [(id, .arr true 1 38 l.length (lf sC (srt l)))] [id] := by
 have h := ah5 Tryz.laysSort (fun s : AS => .int .u32 (asI s)) (fun _ => rfl) vr al8 (fun x y h k => by
  rw [vk] at h k
  apply Classical.byContradiction
  intro hne
  rcases a59 hne with h2 | h2
  · rw [h] at h2; cases h2
  · rw [k] at h2; cases h2) 113 caps (enters_of Tryz.func113 (by kernel_rfl) rfl) (fun x y => al0 x y) id 38 l hsz
 have e : (fun x y : AS => !(ltOf vr) y x) = fun x y => !bef y x := by
  funext x y
  rw [vk]
 rw [e] at h
 exact h
theorem aqv {l : List AS} {x : AS} : x ∈ srt l ↔ x ∈ l := by unfold srt; exact List.mem_mergeSort
theorem adk (l : List AS) : (srt l).length = l.length := List.length_mergeSort _
theorem yi : ∀ {l : List AS} {p : Option AS}, l.Pairwise (fun a b => bef b a = false) → (∀ x, p = some x → ∀ y ∈ l, bef y x = false) → (ig p l).Pairwise (fun a b => bef a b = true) ∧ ∀ x, p = some x → ∀ y ∈ ig p l, bef x y = true
 | [], p, _, _ => ⟨by simp [ig], fun x _ y hy => by simp [ig] at hy⟩
 | z :: l, p, h, hp => by
  obtain ⟨h1, h2⟩ := List.pairwise_cons.1 h
  simp only [ig]
  split
  · rename_i e
    subst e
    exact yi h2 fun x hx y hy => hp x hx y (List.mem_cons_of_mem _ hy)
  · rename_i hne
    obtain ⟨q1, q2⟩ := yi (p := some z) h2 fun x hx y hy => by
     simp only [Option.some.injEq] at hx
     subst hx
     exact h1 y hy
    refine ⟨List.pairwise_cons.2 ⟨fun y hy => q2 z rfl y hy, q1⟩, fun x hx y hy => ?_⟩
    have hxz : bef x z = true := by
     have h3 := hp x hx z List.mem_cons_self
     rcases a59 (a := x) (b := z) (fun e => hne (by rw [hx, e])) with h4 | h4
     · exact h4
     · rw [h3] at h4; cases h4
    rcases List.mem_cons.1 hy with rfl | hy
    · exact hxz
    · exact tn hxz (q2 z rfl y hy)
theorem alu (l : List AS) : k7 (srt l) = ord l := by
 refine axq (yi ?_ fun x hx => by cases hx).1 fun z => by rw [aag, aqv]
 have h := List.pairwise_mergeSort (le := fun x y : AS => !bef y x) (fun a b c h k => by
  simp only [Bool.not_eq_true'] at *
  rw [Bool.eq_false_iff, ne_eq, mj] at *
  omega) (fun a b => by
  simp only [Bool.or_eq_true, Bool.not_eq_true']
  rw [Bool.eq_false_iff, Bool.eq_false_iff, ne_eq, ne_eq, mj, mj]
  omega) l
 refine h.imp fun {a b} hab => ?_
 simpa using hab
end Go.Hx
end
section
namespace Go.Hx
abbrev vB (b : Bool) : HR := bu (.raw (.bool b))
abbrev bx (a : PV) : PV := .vp 1 fun j => [a].getD j .any
def a3d (W : AS → AS → Bool) (l : List AS) (x : AS) : Bool := l.any fun b => decide (x ≠ b) && W x b
def ap5 (W : AS → AS → Bool) (l : List AS) : List AS := (ord l).filter fun x => !a3d W (ord l) x
def aal (a b : AS) : Bool := decide (sub a b)
def abu (l : List AS) : List AS := ap5 aal l
def okT (l : List AS) (i k : Nat) : Bool := (List.range k).all fun j => decide (j = i) || !aal (l.getD i default) (l.getD j default)
def b0r (l : List AS) (i : Nat) : List AS := ((ord l).take i).filter fun x => !a3d aal (ord l) x
end Go.Hx
end
section
namespace Go.Hx
open Go.Proofs
set_option maxRecDepth 100000
theorem aaj : goodFn Tryz.prog 56 := ⟨Tryz.f56, Tryz.func56, by kernel_rfl, by kernel_rfl⟩
theorem abo (l : List AS) (hl : l.length ≤ 8589934592) : ah Tryz.prog 56 [pP (asl l)] (ap [pP (asl (ord l))]) := by
 refine ag (nt := 10) af Tryz.func56 rfl rfl l9 ?_; refine sx7 ?_; refine qy ?_; refine a6 ?_; refine sx7 ?_; refine qy ?_
 refine ci rfl rfl rfl rfl rfl rfl va (a6v l.length false (lf sC l) (by omega)) (ez.refl _) trivial rfl rfl ?_; refine qy ?_; refine a6 ?_; refine sx7 ?_; refine qy ?_
 refine ci rfl rfl rfl rfl rfl rfl ati (axt 0 _ l hl) (ez.refl _) ⟨u9, trivial⟩ rfl rfl ?_; refine a6 ?_; refine sx7 ?_; refine qy ?_
 refine ci rfl rfl rfl rfl rfl rfl auc ((alk (srt l)).swap 900 0) (⟨congrArg (HV.ref 0) (adk l).symm, trivial⟩) ⟨⟨_, rfl, gw rfl (adk l).symm⟩, trivial⟩ rfl rfl ?_; refine qy ?_; refine a6 ?_
 exact hx8 rfl rfl rfl (⟨CoC.one (CoP.of_eq (by rw [alu])), trivial⟩)
theorem aqb : goodFn Tryz.prog 140 := ⟨Tryz.f140, Tryz.func140, by kernel_rfl, by kernel_rfl⟩
theorem aqe (b x : AS) (g k : Nat) (caps : Nat → PV) (W : AS → AS → Bool) (hg : goodFn Tryz.prog g) (hW : ∀ x y, ah Tryz.prog g (pA x :: pA y :: gz caps k 0) (ap [pB (W x y)])) : ah Tryz.prog 140 [pA b, pP (bx (asC x)), pP (bx (.fn g k caps))] (ap [pB (decide (x ≠ b) && W x b)]) := by
 refine ag (nt := 14) af Tryz.func140 rfl rfl l9 ?_; refine sx7 ?_; refine qy ?_; refine a6 ?_; refine sx7 ?_; (iterate 4 refine qy ?_); refine aw rfl rfl (fun r0 => ?_) (fun r0 => ?_)
 ·
  have h0 := r0
  have h0 := of_decide_eq_false (av h0)
  try simp only [ty] at h0
  (iterate 3 refine qy ?_ (hg := (gtt r0))); refine rc rfl rfl rfl rfl rfl rfl hg (hW x b) (CoL.refl _) rfl (gtt r0) ?_; (iterate 2 refine qy ?_); refine a6 ?_
  exact hx8 rfl rfl rfl (⟨ccb (by simp_all [da]), trivial⟩)
 ·
  have h0 := r0
  have h0 := of_decide_eq_true (au h0)
  try simp only [ty] at h0
  (iterate 4 refine k9 (gft r0) ?_); refine rq rfl rfl rfl rfl rfl ?_ (hp := r0); refine qy ?_; refine a6 ?_
  exact hx8 rfl rfl rfl (⟨ccb (by simp_all [da]), trivial⟩)
theorem atb : goodFn Tryz.prog 139 := ⟨Tryz.f139, Tryz.func139, by kernel_rfl, by kernel_rfl⟩
theorem aw7 (x : AS) (l : List AS) (g k : Nat) (caps : Nat → PV) (W : AS → AS → Bool) (hg : goodFn Tryz.prog g) (hW : ∀ x y, ah Tryz.prog g (pA x :: pA y :: gz caps k 0) (ap [pB (W x y)])) : ah Tryz.prog 139 [pA x, pP (bx (asl l)), pP (bx (.fn g k caps))] (ap [pB (a3d W l x)]) := by
 refine ag (nt := 8) af Tryz.func139 rfl rfl l9 ?_; refine sx7 ?_; refine m9 0 ?_; refine qy ?_; refine a6 ?_; refine a7 ?_; refine ju 3 rfl rfl rfl ?_; refine gy ?_; (iterate 2 refine qy ?_)
 refine rc rfl rfl rfl rfl rfl rfl axr (az5 l 140 2 (fun i => [bx (asC x), bx (.fn g k caps)].getD i .any) (fun b => decide (x ≠ b) && W x b) aqb (fun b => aqe b x g k caps W hg hW)) (CoL.refl _) rfl rfl ?_
 refine qy ?_; refine a6 ?_
 exact hx8 rfl rfl rfl (CoL.refl _)
theorem av3 : goodFn Tryz.prog 92 := ⟨Tryz.f92, Tryz.func92, by kernel_rfl, by kernel_rfl⟩
theorem az3 (l : List AS) (hl : l.length ≤ 8589934592) (g k : Nat) (caps : Nat → PV) (W : AS → AS → Bool) (hg : goodFn Tryz.prog g) (hW : ∀ x y, ah Tryz.prog g (pA x :: pA y :: gz caps k 0) (ap [pB (W x y)])) : ah Tryz.prog 92 [pP (asl l), pP (.fn g k caps)] (ap [pP (asl (ap5 W l))]) := by
 refine ag (nt := 12) af Tryz.func92 rfl rfl l9 ?_; refine sx7 ?_; refine m9 2 ?_; refine qy ?_; refine a6 ?_; refine sx7 ?_; refine qy ?_
 refine rc rfl rfl rfl rfl rfl rfl aaj (abo l hl) (CoL.refl _) rfl rfl ?_; refine m9 3 ?_; refine s9 ?_; refine a6 ?_; refine a7 ?_; refine ju 5 rfl rfl rfl ?_; refine ju 3 rfl rfl rfl ?_
 refine gy ?_; refine qy ?_; refine ci rfl rfl rfl rfl rfl rfl va (a6v (ord l).length false (lf sC (ord l)) (Nat.le_trans (a0n l) (by omega))) (ez.refl _) trivial rfl rfl ?_; refine qy ?_
 refine ci rfl rfl rfl rfl rfl rfl ara ((ayx (ord l) 139 2 (fun i => [bx (asl (ord l)), bx (.fn g k caps)].getD i .any) (a3d W (ord l)) atb (fun x => aw7 x (ord l) g k caps W hg hW)).swap 900 0) (ez.refl _) ⟨u9, trivial⟩ rfl rfl ?_
 refine qy ?_; refine a6 ?_
 exact hx8 rfl rfl rfl (CoL.refl _)
theorem avb : goodFn Tryz.prog 93 := ⟨Tryz.f93, Tryz.func93, by kernel_rfl, by kernel_rfl⟩
theorem axu (a b : AS) : ah Tryz.prog 93 [pA a, pA b] (ap [pB (aal a b)]) := by
 refine ag (nt := 9) af Tryz.func93 rfl rfl l9 ?_; refine sx7 ?_; refine qy ?_; refine a6 ?_; refine sx7 ?_; (iterate 5 refine qy ?_); refine a6 ?_
 exact hx8 rfl rfl rfl (⟨ccb (decide_eq_decide.2 fc), trivial⟩)
theorem av6 : goodFn Tryz.prog 46 := ⟨Tryz.f46, Tryz.func46, by kernel_rfl, by kernel_rfl⟩
theorem alr (l : List AS) (hl : l.length ≤ 8589934592) : ah Tryz.prog 46 [pP (asl l)] (ap [pP (asl (abu l))]) := by
 refine ag (nt := 5) af Tryz.func46 rfl rfl l9 ?_; refine sx7 ?_; refine qy ?_; refine a6 ?_; refine sx7 ?_; refine qy ?_
 refine rc rfl rfl rfl rfl rfl rfl av3 (az3 l hl 93 0 _ aal avb (fun a b => axu a b)) (CoL.refl _) rfl rfl ?_; refine qy ?_; refine a6 ?_
 exact hx8 rfl rfl rfl (CoL.refl _)
end Go.Hx
end
section
namespace Go.Hx
def fb (l : List Fd) : List Fd := l.foldl (fun o x => if x ∈ o then o else o ++ [x]) []
theorem a3x {l : List Fd} {i : Nat} (hi : i < l.length) : fb (l.take (i + 1)) = if l.getD i default ∈ fb (l.take i) then fb (l.take i) else fb (l.take i) ++ [l.getD i default] := by
 unfold fb
 rw [br hi, List.foldl_append]
 rfl
theorem ab1 {l : List Fd} {s : Fd} : (l.any fun x => decide (x = s)) = decide (s ∈ l) := by
 rw [Bool.eq_iff_iff, List.any_eq_true, decide_eq_true_iff]
 constructor
 · rintro ⟨x, hx, h⟩
   exact of_decide_eq_true h ▸ hx
 · intro h
   exact ⟨s, h, decide_eq_true rfl⟩
theorem a0m {l : List Fd} {i : Nat} (hi : i < l.length) (h : ((fb (l.take i)).any fun x => decide (x = l.getD i default)) = false) : fb (l.take (i + 1)) = fb (l.take i) ++ [l.getD i default] := by
 rw [ab1] at h
 rw [a3x hi, if_neg (of_decide_eq_false h)]
theorem a0l {l : List Fd} {i : Nat} (hi : i < l.length) (h : ((fb (l.take i)).any fun x => decide (x = l.getD i default)) = true) : fb (l.take (i + 1)) = fb (l.take i) := by
 rw [ab1] at h
 rw [a3x hi, if_pos (of_decide_eq_true h)]
theorem a89 : ∀ (l o : List Fd), (l.foldl (fun o x => if x ∈ o then o else o ++ [x]) o).length ≤ o.length + l.length ∧ ∀ z, z ∈ l.foldl (fun o x => if x ∈ o then o else o ++ [x]) o ↔ z ∈ o ∨ z ∈ l
 | [], o => ⟨by simp, fun z => by simp⟩
 | x :: l, o => by
  obtain ⟨h1, h2⟩ := a89 l (if x ∈ o then o else o ++ [x])
  simp only [List.foldl_cons]
  refine ⟨?_, fun z => ?_⟩
  · refine Nat.le_trans h1 ?_
    split <;> simp <;> omega
  · rw [h2 z, List.mem_cons]
    split
    · rename_i hx
      constructor
      · rintro (h | h) <;> simp [h]
      · rintro (h | rfl | h)
        · exact .inl h
        · exact .inl hx
        · exact .inr h
    · rw [List.mem_append, List.mem_singleton]
      constructor
      · rintro ((h | h) | h) <;> simp [h]
      · rintro (h | h | h) <;> simp [h]
theorem yt (l : List Fd) : (fb l).length ≤ l.length := by
 have := (a89 l []).1
 simpa [fb] using this
def b0j (l : List Fd) (i k : Nat) : Bool := (l.take k).any fun x => decide (x = l.getD i default)
def ve (f : Fd) : List Fd := (b4 (f.rhs &&& ~~~f.lhs)).map fun a => (⟨f.lhs, (1 : AS) <<< a⟩ : Fd)
def io (l : List Fd) : List Fd := (l.map ve).flatten
def jx (l : List Fd) (i k : Nat) : List Fd := io (l.take i) ++ (ve (l.getD i default)).take k
theorem w9 (f : Fd) : (ve f).length = (b4 (f.rhs &&& ~~~f.lhs)).length := by unfold ve; rw [List.length_map]
theorem wo (s : AS) : (b4 s).length ≤ 32 := by rw [← a7e]; exact ahf s
theorem a1g (l : List Fd) (i : Nat) : jx l i 0 = io (l.take i) := by unfold jx; rw [List.take_zero, List.append_nil]
theorem a1n {l : List Fd} {i k : Nat} {m : List Nat} (hm : m = b4 ((l.getD i default).rhs &&& ~~~(l.getD i default).lhs)) (hk : k < m.length) : jx l i (k + 1) = jx l i k ++ [⟨(l.getD i default).lhs, (1 : AS) <<< m.getD k default⟩] := by
 subst hm
 unfold jx
 generalize l.getD i default = x at *
 rw [List.take_add_one, List.append_assoc]
 congr 1
 congr 1
 unfold ve
 rw [List.getElem?_map, List.getElem?_eq_getElem hk, List.getD_eq_getElem?_getD, List.getElem?_eq_getElem hk]
 rfl
theorem a3c {l : List Fd} {i : Nat} (hi : i < l.length) {k : Nat} (hk : k = (b4 ((l.getD i default).rhs &&& ~~~(l.getD i default).lhs)).length) : jx l i k = io (l.take (i + 1)) := by
 subst hk
 unfold jx io
 rw [← w9, List.take_length, br hi, List.map_append, List.flatten_append]
 simp
theorem xl (l : List Fd) : (io l).length ≤ 32 * l.length := by
 induction l with
 | nil => simp [io]
 | cons x l ih =>
  have h : io (x :: l) = ve x ++ io l := by simp [io]
  have h2 := w9 x
  have h3 := wo (x.rhs &&& ~~~x.lhs)
  rw [h, List.length_append, List.length_cons]
  omega
theorem age {l : List Fd} {i k : Nat} (hi : i ≤ l.length) : (jx l i k).length ≤ 32 * l.length + 32 := by
 have h1 := xl (l.take i)
 have h2 := wo ((l.getD i default).rhs &&& ~~~(l.getD i default).lhs)
 rw [List.length_take] at h1
 unfold jx
 rw [List.length_append, List.length_take, w9]
 omega
def exB (l : List Fd) (x : Fd) (a : Nat) : Bool := imp l ⟨x.lhs &&& ~~~((1 : AS) <<< a), x.rhs⟩
theorem a02 (s : AS) (a : Nat) : ca .andNot .u32 (asI s) (IntKind.wrap .u32 (1 * 2 ^ (min a 32))) = asI (s &&& ~~~((1 : AS) <<< a)) := by
 rw [show IntKind.wrap .u32 (1 * 2 ^ (min a 32)) = asI ((1 : AS) <<< a) from afq 1 a, z7]
theorem atu (a : Nat) : IntKind.wrap .u32 (1 * 2 ^ (min a 32)) = asI ((1 : AS) <<< a) := afq 1 a
def iz (l : List Fd) (i : Nat) : List Fd := l.take i ++ l.drop (i + 1)
def a60 (l : List Fd) (i : Nat) : Bool := imp (iz l i) (l.getD i default)
theorem j8 {l : List Fd} {i : Nat} (hi : i < l.length) : (iz l i).length = l.length - 1 := by unfold iz; rw [List.length_append, List.length_take, List.length_drop]; omega
end Go.Hx
end
section
namespace Go.Hx
open Go.Proofs Go.Lib Go.RowKit
set_option maxHeartbeats 4000000 in
set_option maxRecDepth 100000 in
theorem aa4 (k : Nat) (hk : 0 < k) (hbig : k * 8 ≤ 140737488355328) (w : World) (ad : Option Addr) :
 Calls Tryz.prog 236 #[.slice ad 0 0, .int .i64 k] w fun e w' => ∃ G ROW, e = .returned (.slice (some ⟨w.heap.size, 0, none⟩) 0 G) ∧ G ≤ maxLen ∧ w' = w.drew.alloc (.cells ROW 40) ∧ ROW.size = G * 2 := by
 obtain ⟨i0, z, hi0, hz0, hzs, hzb, hzc⟩ : ∃ i0 z, Tryz.prog.info? 40 = some i0 ∧ i0.zero = some z ∧ i0.size = 2 ∧ i0.bytes = 8 ∧ z.cells.size = 2 := by
  have h : (Tryz.prog.info? 40).map (fun i => (i.zero.map (fun z => z.cells.size), i.size, i.bytes)) = some (some 2, 2, 8) := by kernel_rfl
  cases hq : Tryz.prog.info? 40 with
  | none => rw [hq] at h; cases h
  | some i0 =>
   rw [hq] at h
   cases hz : i0.zero with
   | none => simp [hz] at h
   | some z => simp [hz] at h; exact ⟨i0, z, rfl, hz, h.2.1, h.2.2, h.1⟩
 have hc : 0 + k ≤ maxLen := by unfold maxLen; omega
 have hold : (Builtin.firstCells i0.size 0 (.slice ad 0 0)).run Tryz.prog w.drew = .ok (([] : List Value)).toArray w.drew := by
  cases ad with
  | none => exact run_firstCells_none w.drew _ _ _ _
  | some a => exact run_firstCells_some w.drew _ 0 a 0 0 [] (by simp) (fun j v hj => by simp at hj)
 obtain ⟨G, hG⟩ : ∃ G, G = grownCap w (0 + k) 0 40 := ⟨_, rfl⟩
 have hGn : 0 + k ≤ G := by rw [hG]; exact grownCap_ge w _ _ _
 have hGm : G ≤ maxLen := by rw [hG]; exact grownCap_le_maxLen w (0 + k) 0 40 hc
 obtain ⟨ROW, hROW⟩ : ∃ ROW : Array Value, ROW = ([] : List Value).toArray ++ Builtin.zeroCells z.cells k ++ Builtin.zeroCells z.cells (G - (0 + k)) := ⟨_, rfl⟩
 have hrz : (Builtin.append_ #[27, 3] 27 #[.slice ad 0 0, .int .i64 (k : Int)]).run Tryz.prog w = .ok (.slice (some ⟨w.heap.size, 0, none⟩) k G) (w.drew.alloc (.cells ROW 40)) := by
  have h := Lib.run_append_grow_zeros w 27 3 27 40 i0 z .i64 .i64 Tryz.underlying27 Tryz.underlying3 hi0 hz0 ad 0 0 [] hold k hk (by omega) (by omega) (by unfold maxLen at hc; omega) (by rw [hzb]; omega) (by rw [hzb, Nat.zero_add]; exact growslice_fits (by omega) hbig)
  rw [← hG, ← hROW] at h
  rw [h]
  simp
 have hRs : ROW.size = G * 2 := by
  rw [hROW]
  simp only [Array.size_append, List.size_toArray, List.length_nil, size_zeroCells, hzc]
  omega
 have mixed := aq
 have hcM : G ≤ 9223372036854775807 := by unfold maxLen at hGm; omega
 have hk0 : ¬ ((k : Int) < 0) := by omega
 have hk1 : (0 : Int) < (k : Int) := by omega
 have hw1 : IntKind.i64.wrap (k : Int) = (k : Int) := by rw [IntKind.wrap_i64]; omega
 clear hG hROW hold
 rcases ad with _ | ⟨ab, ao, asp⟩
 all_goals go_enter Tryz.func236, Tryz.ntmps236
 all_goals go_wp2_with (at_builtin; refine Lib.wpList_append_run _ rfl _ _ _ _ rfl _ _ rfl rfl _ _ hrz ?_)
 all_goals go_ret
 all_goals first | exact ⟨G, ROW, rfl, hGm, rfl, hRs⟩ | exact ⟨G, rfl, hGm, ROW, rfl, hRs⟩
theorem ab4 (w : World) (ad : Option Addr) : Calls Tryz.prog 236 #[.slice ad 0 0, .int .i64 0] w fun e w' => e = .returned (.slice ad 0 0) ∧ w' = w := by
 have mixed := aq
 go_enter Tryz.func236, Tryz.ntmps236
 go_wp2
 go_ret
 exact ⟨rfl, rfl⟩
theorem ayg (k a : Nat) (hk : k ≤ 68719476736) (F : Nat → Nat → PV) :
 dl Tryz.prog 236 [.one (.p (kc (.slice none 0 0))), .one (.p (.raw (.int .i64 k)))] [] (.v (.one (.ref a 0))) [(a, .arr true 2 40 0 F)] [] := by
 refine am9 (by omega) fun w ad => ?_
 rcases Nat.eq_zero_or_pos k with rfl | hk0
 · refine (ab4 w ad).mono ?_
   rintro e w' ⟨rfl, rfl⟩
   exact ⟨_, rfl, Below.refl _ _, .inl rfl⟩
 · refine (aa4 k hk0 (by omega) w ad).mono ?_
   rintro e w' ⟨G, ROW, rfl, hG, rfl, hR⟩
   refine ⟨_, rfl, ⟨rfl, rfl, rfl, ?_, fun q hq => axh w.drew _ hq, Nat.le_succ _⟩, .inr ⟨⟨by simp, .inr ⟨_, G, ROW, rfl, Nat.zero_le _, heap_alloc_new w.drew _, Nat.zero_le _, hG, hR, by simp⟩⟩, fun g hg => ?_⟩⟩
   · show _ ≤ (w.heap.push _).size
     rw [Array.size_push]; omega
   · have : w.heap.size = g := by simpa [cg] using hg
     omega
end Go.Hx
end
section
namespace Go.Hx
open Go.Proofs
set_option maxRecDepth 100000
theorem acz : goodFn Tryz.prog 205 := ⟨Tryz.f205, Tryz.func205, by kernel_rfl, by kernel_rfl⟩
theorem ajv (l : List Fd) (hl : l.length ≤ 16777216) : dl Tryz.prog 205 [.one (.p (fdl l))] [] (.v (.one (.ref 900 (fb l).length))) [(900, .arr true 2 40 (fb l).length (lf Fd.c (fb l)))] [] := by
 refine fp (nt := 22) af Tryz.func205 rfl rfl l9 rfl ?_; refine sx7 ?_; refine qy ?_; refine a6 ?_; refine sx7 ?_; refine qy ?_; refine a6 ?_; (iterate 2 refine a7 ?_)
 refine cj 0 rfl fun hn => ?_
 refine gy ?_; (iterate 3 refine qy ?_); refine a6 ?_; refine ae ?_
 refine dm 3 900 true 2 40 (lf Fd.c []) (by decide) rfl (CoP.sl rfl (.inr rfl) (fun h => h) (fun i j hi _ => absurd hi (Nat.not_lt_zero i))) (.inr rfl) rfl ?_
 refine ai (ι := Nat) ⟨[(6, some _), (7, some _)], []⟩ ⟨⟨c9, c9, trivial⟩, trivial⟩ (fun i => ⟨[(3, some (.v (.one (.ref 900 (fb (l.take i)).length)))), (8, some (vI i))], [(900, some (.arr true 2 40 (fb (l.take i)).length (lf Fd.c (fb (l.take i)))))]⟩) (fun i => i ≤ l.length) (fun i => l.length - i) (0) (Nat.zero_le _) ⟨⟨zy, zy, trivial⟩, ⟨u9, trivial⟩⟩ ?_
 rintro i hi
 have hlen := yt (l.take i)
 rw [List.length_take] at hlen
 refine sx7 ?_; refine qy ?_; refine a6 ?_; refine a7 ?_; refine a8 _ rfl (fun r0 => ?_) (fun r0 => ?_)
 ·
  have h0 := of_decide_eq_true r0
  try simp only [ty] at h0
  refine aa ?_; refine a7 ?_; refine ae ?_; refine sx7 ?_; (iterate 2 refine qy ?_); refine m9 0 ?_; refine s9 ?_; refine a6 ?_; refine sx7 ?_; (iterate 2 refine qy ?_)
  refine rc rfl rfl rfl rfl rfl rfl aq3 (azx (fb (l.take i)) (l.getD i default)) (CoL.refl _) rfl rfl ?_; refine qy ?_; refine a6 ?_; refine a8 _ rfl (fun r1 => ?_) (fun r1 => ?_)
  ·
   have h1 := r1
   have h1 := av h1
   have hc := av r1
   refine gy ?_; (iterate 2 refine qy ?_); refine m9 1 ?_; refine ra 2 true rfl rfl rfl rfl rfl rfl ?_; refine qy ?_; refine a6 ?_; refine gy ?_; (iterate 2 refine qy ?_); refine a6 ?_
   first | (refine ⟨i + 1, ?_, ?_, ?_⟩
            · show i + 1 ≤ _; omega
            · first | omega | (dsimp only; omega)
            · exact ⟨⟨⟨_, rfl, (df (a0m (by omega) hc))⟩, zy, c9, c9, trivial⟩, ⟨⟨_, rfl, (jb (a0m (by omega) hc) (CoP.refl _) (CoP.refl _))⟩, trivial⟩⟩)
         | (refine ⟨i + 1, ?_, ?_, ?_⟩
            · show i + 1 ≤ _; omega
            · first | omega | (dsimp only; omega)
            · exact ⟨⟨⟨_, rfl, (f8 (a0l (by omega) hc))⟩, zy, c9, c9, trivial⟩, ⟨⟨_, rfl, (dp (a0l (by omega) hc))⟩, trivial⟩⟩)
  ·
   have h1 := r1
   have h1 := au h1
   have hc := au r1
   refine aa ?_; refine gy ?_; (iterate 2 refine qy ?_); refine a6 ?_
   first | (refine ⟨i + 1, ?_, ?_, ?_⟩
            · show i + 1 ≤ _; omega
            · first | omega | (dsimp only; omega)
            · exact ⟨⟨⟨_, rfl, (df (a0m (by omega) hc))⟩, zy, c9, c9, trivial⟩, ⟨⟨_, rfl, (jb (a0m (by omega) hc) (CoP.refl _) (CoP.refl _))⟩, trivial⟩⟩)
         | (refine ⟨i + 1, ?_, ?_, ?_⟩
            · show i + 1 ≤ _; omega
            · first | omega | (dsimp only; omega)
            · exact ⟨⟨⟨_, rfl, (f8 (a0l (by omega) hc))⟩, zy, c9, c9, trivial⟩, ⟨⟨_, rfl, (dp (a0l (by omega) hc))⟩, trivial⟩⟩)
 ·
  have h0 := of_decide_eq_false r0
  try simp only [ty] at h0
  obtain rfl : i = l.length := by omega
  refine ak ?_; refine sx7 ?_; (iterate 2 refine qy ?_); refine a6 ?_; refine am ?_; refine ⟨.inr rfl, ?_⟩
  exact ⟨_, _, rfl, (by (repeat' apply And.intro) <;> first | trivial | exact Nat.le_of_ble_eq_true rfl), CoR.of_eq (by rw [List.take_length]; rfl), ⟨⟨_, rfl, gw (by rw [List.take_length]) (by rw [List.take_length])⟩, trivial⟩⟩
theorem axz (l : List Fd) (hl : l.length ≤ 16777216) : ah Tryz.prog 205 [pP (fdl l)] (ap [pP (fdl (fb l))]) :=
 dl.pure (args := [pP (fdl l)]) (l := [.one (.ref 900 (fb l).length)]) (ajv l hl) rfl ⟨rfl, trivial⟩
end Go.Hx
end
section
namespace Go.Hx
theorem ale {α : Type} [Inhabited α] {s n k' : Nat} {k : Int} {cl : Bool} {c : α → Nat → PV} {l : List α} (h : k.toNat = k') (hk : k' ≤ l.length) :
 CoP (.sl (go (bw n (some k)) none) s cl (lx (lf c l) none)) (psl s c (l.take k')) := by
 subst h; exact ar3 hk
theorem an4 {α : Type} [Inhabited α] {s n k' : Nat} {k : Int} {cl : Bool} {c : α → Nat → PV} {l : List α} (hn : n = l.length) (h : k.toNat = k') : CoP (.sl (go n (some k)) s cl (lx (lf c l) (some k))) (psl s c (l.drop k')) := by
 subst h hn; exact asd
theorem aa5 {l : List Fd} {i : Nat} : [l.take i, l.drop (i + 1)].flatten = iz l i := by simp [iz]
theorem au0 {l : List Fd} {i : Nat} (hi : i < l.length) (hl : l.length ≤ 16777216) : [l.take i, l.drop (i + 1)].flatten.length ≤ 16777216 := by
 rw [aa5, j8 hi]
 omega
theorem ayp {x : Fd} {b : Int} {s : AS} (h : b = asI s) : CoC (.agg [.raw (.int .u32 b), .raw (.int .u32 (asI x.rhs))]) (Fd.pc ⟨s, x.rhs⟩) := by
 subst h
 exact CoC.refl _
end Go.Hx
end
section
namespace Go.Hx
open Go.Proofs
set_option maxRecDepth 100000
def rwC (l : List Fd) : Nat → PV
 | 0 => fdl l
 | _ => .any
abbrev b06 (ls : List (List Fd)) : PV := psl 1 rwC ls
theorem aq1 : goodFn Tryz.prog 236 := ⟨Tryz.f236, Tryz.func236, by kernel_rfl, by kernel_rfl⟩
theorem at3 : goodFn Tryz.prog 228 := ⟨Tryz.f228, Tryz.func228, by kernel_rfl, by kernel_rfl⟩
theorem aty (ls : List (List Fd)) (h : ls.flatten.length ≤ 16777216) : ah Tryz.prog 228 [pP (b06 ls)] (ap [pP (fdl ls.flatten)]) := by
 refine ag (nt := 36) af Tryz.func228 rfl rfl l9 ?_; refine sx7 ?_; refine qy ?_; refine a6 ?_; refine sx7 ?_; refine qy ?_; refine a6 ?_; (iterate 2 refine a7 ?_); refine cj 0 rfl (fun hn => ?_)
 refine gy ?_; (iterate 3 refine qy ?_); refine a6 ?_; refine ae ?_
 refine ai (ι := Nat) ⟨[(0, some _), (9, some _), (10, some _)], []⟩ ⟨⟨c9, c9, c9, trivial⟩, trivial⟩ (fun i => ⟨[(3, some (vI (ls.take i).flatten.length)), (11, some (vI i))], []⟩) (fun i => i ≤ ls.length) (fun i => ls.length - i) (0) (Nat.zero_le _) ⟨⟨zy, zy, trivial⟩, trivial⟩ ?_
 rintro i hi
 refine sx7 ?_; refine qy ?_; refine a6 ?_; refine a7 ?_; refine a8 _ rfl (fun r0 => ?_) (fun r0 => ?_)
 ·
  have h0 := of_decide_eq_true r0
  try simp only [ty] at h0
  have hts : (ls.take (i + 1)).flatten.length = (ls.take i).flatten.length + (ls.getD ((i : Nat) : Int).toNat default).length := by rw [tsf _ _ (by omega), List.length_append]; rfl
  have hfl : (ls.take i).flatten.length + (ls.getD ((i : Nat) : Int).toNat default).length ≤ ls.flatten.length := yj ls i (by omega)
  refine aa ?_; refine a7 ?_; refine ae ?_; refine sx7 ?_; (iterate 3 refine qy ?_); refine a6 ?_; refine sx7 ?_; (iterate 5 refine qy ?_); refine a6 ?_; refine sx7 ?_; (iterate 2 refine qy ?_)
  refine a6 ?_; refine a8 _ rfl (fun r1 => ?_) (fun r1 => ?_)
  ·
   have h1 := of_decide_eq_true r1
   try simp only [ty] at h1
   exfalso
   omega
  ·
   have h1 := of_decide_eq_false r1
   try simp only [ty] at h1
   refine aa ?_; refine gy ?_; (iterate 2 refine qy ?_); refine a6 ?_; refine ⟨i + 1, ?_, ?_, ?_⟩
   · show i + 1 ≤ _
     omega
   · first | omega | (dsimp only; omega)
   · exact ⟨⟨zy, zy, c9, c9, c9, trivial⟩, trivial⟩
 ·
  have h0 := of_decide_eq_false r0
  try simp only [ty] at h0
  obtain rfl : i = ls.length := by omega
  have hfe : (ls.take ls.length).flatten.length = ls.flatten.length := by rw [List.take_length]
  refine ak ?_; refine sx7 ?_; refine qy ?_; refine ci rfl rfl rfl rfl rfl rfl aq1 (ayg (ls.take ls.length).flatten.length 900 (by omega) (lf Fd.c [])) (ez.refl _) trivial rfl rfl ?_; refine qy ?_
  refine a6 ?_; refine a7 ?_; refine sx7 ?_; (iterate 3 refine qy ?_); refine a6 ?_; refine ae ?_
  refine ai (ι := Nat) ⟨[(25, some _), (26, some _)], []⟩ ⟨⟨c9, c9, trivial⟩, trivial⟩ (fun i => ⟨[(6, some (.v (.one (.ref 900 (ls.take i).flatten.length)))), (27, some (vI i))], [(900, some (.arr true 2 40 (ls.take i).flatten.length (lf Fd.c (ls.take i).flatten)))]⟩) (fun i => i ≤ ls.length) (fun i => ls.length - i) (0) (Nat.zero_le _) ⟨⟨zy, zy, trivial⟩, ⟨u9, trivial⟩⟩ ?_
  rintro i hi
  refine sx7 ?_; refine qy ?_; refine a6 ?_; refine a7 ?_; refine a8 _ rfl (fun r2 => ?_) (fun r2 => ?_)
  ·
   have h2 := of_decide_eq_true r2
   try simp only [ty] at h2
   have hts : (ls.take (i + 1)).flatten.length = (ls.take i).flatten.length + (ls.getD ((i : Nat) : Int).toNat default).length := by rw [tsf _ _ (by omega), List.length_append]; rfl
   have hfl : (ls.take i).flatten.length + (ls.getD ((i : Nat) : Int).toNat default).length ≤ ls.flatten.length := yj ls i (by omega)
   refine aa ?_; refine a7 ?_; refine ae ?_; refine sx7 ?_; (iterate 3 refine qy ?_); refine a6 ?_; refine gy ?_; (iterate 2 refine qy ?_); refine ra 0 true rfl rfl rfl rfl rfl rfl ?_; refine qy ?_
   refine a6 ?_; refine gy ?_; (iterate 2 refine qy ?_); refine a6 ?_; refine ⟨i + 1, ?_, ?_, ?_⟩
   · show i + 1 ≤ _
     omega
   · first | omega | (dsimp only; omega)
   · exact ⟨⟨⟨_, rfl, (CoR.of_eq (by rw [hts]))⟩, zy, c9, c9, trivial⟩, ⟨⟨_, rfl, (by rw [tsf _ _ (by omega)]; exact aj2 _ (fun h => h) rfl (fun i j hi hj => CoP.refl _))⟩, trivial⟩⟩
  ·
   have h2 := of_decide_eq_false r2
   try simp only [ty] at h2
   obtain rfl : i = ls.length := by omega
   refine ak ?_; refine sx7 ?_; (iterate 2 refine qy ?_); refine a6 ?_; refine am ?_; refine ⟨.inr rfl, ?_⟩
   rw [show ls.flatten = (ls.take ls.length).flatten by rw [List.take_length]]
   exact f9 rfl rfl (CoL.refl _)
theorem ad1 : goodFn Tryz.prog 207 := ⟨Tryz.f207, Tryz.func207, by kernel_rfl, by kernel_rfl⟩
theorem ad4 (l : List Fd) (i : Nat) (hi : i < l.length) (hl : l.length ≤ 16777216) : ah Tryz.prog 207 [pP (fdl l), pI i] (ap [pP (fdl (iz l i))]) := by
 refine ag (nt := 14) af Tryz.func207 rfl rfl l9 ?_; refine sx7 ?_; refine qy ?_; refine a6 ?_; refine a7 ?_
 have hll := au0 hi hl
 refine b5 (E := bm) af aq [0, 1, 2, 3, 4, 5, 6, 7, 8, 9] ?_; (iterate 7 refine qy ?_); refine m9 0 ?_
 refine ci rfl rfl rfl rfl rfl rfl at3 (ah.eat (hcs := [.one (.ref 0 2)]) (o1 := [(0, .arr true 1 27 2 (lf rwC [l.take i, l.drop (i + 1)]))]) (aty [l.take i, l.drop (i + 1)] hll) rfl (by (repeat' apply And.intro) <;> first | trivial | rfl) (CoL.refl _)) (ez.refl _) ⟨⟨_, rfl, ⟨fun h => h, rfl, rfl, rfl, fun i j hi hj => (by have hi : i < 2 := hi; have hj : j < 1 := hj; obtain rfl : j = 0 := (by omega); rcases (show i = 0 ∨ i = 1 by omega) with rfl | rfl; exact ale rfl (by omega); exact an4 rfl (by omega))⟩⟩, trivial⟩ rfl rfl ?_
 refine qy ?_; refine a6 ?_; refine ⟨by kernel_rfl, ?_⟩
 exact hx8 rfl rfl rfl (⟨CoC.one (CoP.of_eq (by rw [aa5])), trivial⟩)
theorem aq4 : goodFn Tryz.prog 206 := ⟨Tryz.f206, Tryz.func206, by kernel_rfl, by kernel_rfl⟩
theorem aw1 (l : List Fd) (i : Nat) (hi : i < l.length) (hl : l.length ≤ 16777216) : ah Tryz.prog 206 [pP (fdl l), pI i] (ap [pB (a60 l i)]) := by
 refine ag (nt := 13) af Tryz.func206 rfl rfl l9 ?_; refine sx7 ?_; refine qy ?_; refine a6 ?_; refine a7 ?_; refine b5 (E := bm) af aq [0, 1, 2, 3, 4, 5, 6, 7, 8] ?_; (iterate 2 refine qy ?_)
 refine rc rfl rfl rfl rfl rfl rfl ad1 (ad4 l i hi hl) (CoL.refl _) rfl rfl ?_; (iterate 4 refine qy ?_); refine rc rfl rfl rfl rfl rfl rfl adq (awc (iz l i) (l.getD i default)) (CoL.refl _) rfl rfl ?_
 refine qy ?_; refine a6 ?_; refine ⟨by kernel_rfl, ?_⟩
 exact hx8 rfl rfl rfl (CoL.refl _)
theorem aqd : goodFn Tryz.prog 204 := ⟨Tryz.f204, Tryz.func204, by kernel_rfl, by kernel_rfl⟩
theorem axe (l : List Fd) (x : Fd) (a : Nat) : ah Tryz.prog 204 [pP (fdl l), x.pc, pI a] (ap [pB (exB l x a)]) := by
 refine ag (nt := 17) af Tryz.func204 rfl rfl l9 ?_; refine sx7 ?_; refine m9 0 ?_; refine qy ?_; refine a6 ?_; refine a7 ?_; refine b5 (E := bm) af aq [0, 1, 2, 3, 4, 5, 6, 7, 8, 9, 10] ?_
 (iterate 9 refine qy ?_); refine rc rfl rfl rfl rfl rfl rfl adq (awc l ⟨x.lhs &&& ~~~((1 : AS) <<< a), x.rhs⟩) (⟨CoC.refl _, ayp (a02 _ _), trivial⟩) rfl rfl ?_; refine qy ?_; refine a6 ?_
 refine ⟨by kernel_rfl, ?_⟩
 exact hx8 rfl rfl rfl (CoL.refl _)
end Go.Hx
end
section
namespace Go.Hx
def b0e (l : List Fd) (i k : Nat) : List Fd := io (l.take i) ++ (f0 ((l.getD i default).rhs &&& ~~~(l.getD i default).lhs) k).map fun a => (⟨(l.getD i default).lhs, (1 : AS) <<< a⟩ : Fd)
def amu (x : Fd) (a : Nat) : Fd := ⟨x.lhs &&& ~~~((1 : AS) <<< a), x.rhs⟩
def ni (i : Nat) (l : List Fd) (a : Nat) : List Fd := if cu (l.getD i default).lhs a && exB l (l.getD i default) a then l.set i (amu (l.getD i default) a) else l
def ll (l : List Fd) (i k : Nat) : List Fd := ((b4 (l.getD i default).lhs).take k).foldl (ni i) l
def a2c (l : List Fd) (i : Nat) : List Fd := (b4 (l.getD i default).lhs).foldl (ni i) l
def ij (l : List Fd) (i : Nat) : List Fd := (List.range i).foldl a2c l
theorem ab6 {i a : Nat} {l : List Fd} : (ni i l a).length = l.length := by
 unfold ni
 split
 · rw [List.length_set]
 · rfl
theorem ze {i : Nat} : ∀ (m : List Nat) (l : List Fd), (m.foldl (ni i) l).length = l.length
 | [], l => rfl
 | a :: m, l => by rw [List.foldl_cons, ze m, ab6]
theorem a9l {l : List Fd} {i k : Nat} : (ll l i k).length = l.length := ze _ _
theorem ao8 {l : List Fd} {i : Nat} : (a2c l i).length = l.length := ze _ _
theorem kz {l : List Fd} : ∀ {i : Nat}, (ij l i).length = l.length
 | 0 => rfl
 | i + 1 => by
  unfold ij
  rw [List.range_succ, List.foldl_append]
  show (a2c ((List.range i).foldl a2c l) i).length = _
  rw [ao8]
  exact kz (i := i)
theorem ai8 (l : List Fd) (i : Nat) : ij l (i + 1) = a2c (ij l i) i := by
 unfold ij
 rw [List.range_succ, List.foldl_append]
 rfl
theorem ai7 (l : List Fd) (i : Nat) : ll l i 0 = l := by unfold ll; rw [List.take_zero]; rfl
theorem aoa {l : List Fd} {i k : Nat} (hk : k = (b4 (l.getD i default).lhs).length) : ll l i k = a2c l i := by
 unfold ll a2c
 rw [hk, List.take_length]
theorem td {l : List Fd} {i k : Nat} (hk : k < (b4 (l.getD i default).lhs).length) : ll l i (k + 1) = ni i (ll l i k) ((b4 (l.getD i default).lhs).getD k default) := by
 unfold ll
 rw [br hk, List.foldl_append]
 rfl
theorem a7x {l : List Fd} {i : Nat} {x : Fd} (hi : i < l.length) : (l.set i x).getD i default = x := by simp [List.getD, hi]
theorem akn {i a b : Nat} {l : List Fd} (hi : i < l.length) (hb : b < 32) (hne : b ≠ a) : ((ni i l a).getD i default).lhs.getLsbD b = (l.getD i default).lhs.getLsbD b := by
 unfold ni
 split
 · rw [a7x hi]
   show ((l.getD i default).lhs &&& ~~~((1 : AS) <<< a)).getLsbD b = _
   rw [BitVec.getLsbD_and, BitVec.getLsbD_not, jy _ _ hb]
   simp [hb, hne]
 · rfl
theorem a7n {i b : Nat} (hb : b < 32) : ∀ (m : List Nat) (l : List Fd), i < l.length → (∀ a ∈ m, b ≠ a) → ((m.foldl (ni i) l).getD i default).lhs.getLsbD b = (l.getD i default).lhs.getLsbD b
 | [], l, _, _ => rfl
 | a :: m, l, hi, h => by
  rw [List.foldl_cons, a7n hb m _ (by rw [ab6]; exact hi) fun c hc => h c (List.mem_cons_of_mem _ hc), akn hi hb (h a List.mem_cons_self)]
theorem af9 (s : AS) : (b4 s).Pairwise (· < ·) := List.Pairwise.filter _ List.pairwise_lt_range
theorem abr {m : List Nat} {k : Nat} (hk : k < m.length) : m.getD k default = m[k] := by simp [List.getD, hk]
theorem akd {m : List Nat} {k : Nat} (hk : k < m.length) : m.getD k default ∈ m := by rw [abr hk]; exact List.getElem_mem hk
theorem amn {l : List Fd} {i k : Nat} (hi : i < l.length) (hk : k < (b4 (l.getD i default).lhs).length) : cu ((ll l i k).getD i default).lhs (((b4 (l.getD i default).lhs).getD k default : Nat) : Int) = true := by
 have hm : (b4 (l.getD i default).lhs).getD k default ∈ b4 (l.getD i default).lhs := akd hk
 obtain ⟨h1, h2⟩ := pb.1 hm
 rw [fy h1]
 unfold ll
 rw [a7n h1 _ _ hi, h2]
 intro a ha
 obtain ⟨j, hj, rfl⟩ := List.getElem_of_mem ha
 rw [List.length_take] at hj
 rw [List.getElem_take, abr hk]
 have := List.pairwise_iff_getElem.1 (af9 (l.getD i default).lhs) j k (by omega) hk (by omega)
 exact Nat.ne_of_gt this
theorem agq {i a : Nat} {l : List Fd} (h : cu (l.getD i default).lhs a = true) (h2 : exB l (l.getD i default) a = true) : ni i l a = l.set i (amu (l.getD i default) a) := by unfold ni; rw [h, h2]; rfl
theorem ajk {i a : Nat} {l : List Fd} (h2 : exB l (l.getD i default) a = false) : ni i l a = l := by unfold ni; rw [h2]; simp
theorem ada {wr wr' : Bool} {n k i a : Nat} {e : TypeId} {l l' : List Fd} {v : Int} (hl : l' = l.set i (amu (l.getD i default) a)) (hv : v = asI ((l.getD i default).lhs &&& ~~~((1 : AS) <<< a))) (hk : k = i) (hi : i < l.length) (hn : n = l.length) (hw : wr' = true → wr = true := by exact fun h => h) :
 CoO (.arr wr 2 e n (ep (lf Fd.c l) k 0 [.raw (.int .u32 v)])) (.arr wr' 2 e n (lf Fd.c l')) := by
 subst hl hv hk hn
 refine ⟨hw, rfl, rfl, rfl, fun r j hr hj => CoP.of_eq ?_⟩
 unfold ep lf
 by_cases h : r = k
 · subst h
   rw [a7x hi]
   rcases (by omega : j = 0 ∨ j = 1) with rfl | rfl
   · rw [if_pos ⟨rfl, Nat.le_refl _, by simp⟩]
     rfl
   · rw [if_neg (by simp)]
     rfl
 · rw [if_neg (by omega), getD_set_ne' h]
theorem adc {n : Nat} {cl : Bool} {l : List Fd} (h : n = l.length) : CoP (.sl n 2 cl (lf Fd.c l)) (fdl l) := CoP.sl h.symm (.inl rfl) (fun h => by cases h) fun _ _ _ _ => CoP.refl _
def ne : Nat → List Fd → Nat → List Fd
 | 0, l, _ => l
 | f + 1, l, i => if i < l.length then (if a60 l i then ne f (iz l i) i else ne f l (i + 1)) else l
theorem aee {l : List Fd} {i : Nat} (hi : i < l.length) (h : a60 l i = true) : ne (l.length - i) l i = ne ((iz l i).length - i) (iz l i) i := by
 rw [j8 hi, show l.length - i = (l.length - 1 - i) + 1 by omega]
 show (if i < l.length then (if a60 l i then _ else _) else l) = _
 rw [if_pos hi, h]
 rfl
theorem aeo {l : List Fd} {i : Nat} (hi : i < l.length) (h : a60 l i = false) : ne (l.length - i) l i = ne (l.length - (i + 1)) l (i + 1) := by
 rw [show l.length - i = (l.length - (i + 1)) + 1 by omega]
 show (if i < l.length then (if a60 l i then _ else _) else l) = _
 rw [if_pos hi, h]
 rfl
theorem agu {l : List Fd} {i : Nat} (hi : ¬ i < l.length) : ne (l.length - i) l i = l := by rw [show l.length - i = 0 by omega]; rfl
def spl (l : List Fd) : List Fd := fb (io l)
def ur (l : List Fd) : List Fd := fb (ij (spl l) (spl l).length)
def a9g (l : List Fd) : List Fd := ne (ur l).length (ur l) 0
theorem acw (l : List Fd) : (spl l).length ≤ 32 * l.length := Nat.le_trans (yt _) (xl l)
theorem a3y (l : List Fd) : (ur l).length ≤ 32 * l.length := Nat.le_trans (yt _) (by rw [kz]; exact acw l)
def b0i (t : AS) (l : List Fd) : Prop := ∀ x ∈ l, sub x.lhs t
end Go.Hx
end
