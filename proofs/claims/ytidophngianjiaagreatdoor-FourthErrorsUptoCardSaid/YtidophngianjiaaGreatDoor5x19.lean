/- A part of the proof: SrW Cs10 V8 Cs11 V10 Cs13 Cs14 Cs15 V13 Cs16 Hx24 Cs17 Cs18 Cs19. -/
import Derived.Shelf.SlSortCmp.NoneTotal
import Derived.Test.YtidophngianjiaaGreatDoor5x14
import Derived.Test.YtidophngianjiaaGreatDoor5x17
import Derived.Test.YtidophngianjiaaGreatDoor5x18
set_option linter.all false
section
namespace Go.Hx
open Go.Proofs Go.RowKit Go.Sort
set_option maxRecDepth 100000
theorem aac {w w' : World} (h : Below w.heap.size w w') : ∃ q os, w' = grow (w.drewN q) os := by
 refine ⟨w'.drawn - w.drawn, w'.heap.extract w.heap.size w'.heap.size, ?_⟩
 have hd := h.drawn
 obtain ⟨h1, h2, h3, h4, h5, _⟩ := h
 cases w with
 | mk hp tp dr os out =>
 cases w' with
 | mk hp' tp' dr' os' out' =>
 dsimp only at *
 subst h1 h2 h3
 unfold grow World.drewN
 simp only [World.mk.injEq, true_and, and_true]
 refine ⟨?_, by omega⟩
 apply Array.ext_getElem?
 intro k
 rw [Array.getElem?_append]
 by_cases hk : k < hp.size
 · rw [if_pos hk, h5 k hk]
 · rw [if_neg hk, Array.getElem?_extract]
   by_cases hk2 : k < hp'.size
   · rw [if_pos (by omega)]
     congr 1
     omega
   · rw [if_neg (by omega), Array.getElem?_eq_none (by omega)]
theorem ab0 {α : Type} [Inhabited α] {enc : α → Value} {w : World} {g m : Nat} {d : Array α} {os : Array Obj} {cur : Array Value} {e : TypeId} {fr : Nat × Nat} (h : w.heap[g]? = some (.cells cur e fr)) :
 (sortWorld enc w g 0 m d os).heap[g]? = some (.cells (putCells enc 0 d cur) e fr) := by
 have hlt := (Array.getElem?_eq_some_iff.1 h).1
 unfold sortWorld
 rw [heap_grow_old _ _ (by simpa using hlt)]
 unfold putRow mapBlock
 simp only [heap_ahead, Array.getElem?_modify, if_true, h]
 rfl
theorem sq {α : Type} [Inhabited α] {enc : α → Value} {w : World} {g m : Nat} {d : Array α} {os : Array Obj} {b : Nat} (hb : b < w.heap.size) (hne : b ≠ g) : (sortWorld enc w g 0 m d os).heap[b]? = w.heap[b]? := by
 unfold sortWorld
 rw [heap_grow_old _ _ (by simpa using hb)]
 unfold putRow mapBlock
 simp only [heap_ahead, Array.getElem?_modify, if_neg (Ne.symm hne)]
theorem a9b {α : Type} [Inhabited α] {enc : α → Value} {w : World} {g m : Nat} {d : Array α} {os : Array Obj} : Below 0 w (sortWorld enc w g 0 m d os) :=
 ⟨rfl, rfl, rfl, by unfold sortWorld; simp, fun k hk => absurd hk (Nat.not_lt_zero k), by unfold sortWorld grow; simp⟩
theorem ag4 {α : Type} [Inhabited α] {enc : α → Value} {d : Array α} {cur : Array Value} (h : d.size ≤ cur.size) : (putCells enc 0 d cur).toList.take d.size = d.toList.map enc := by
 apply List.ext_getElem?
 intro k
 rw [List.getElem?_take, List.getElem?_map, Array.getElem?_toList, Array.getElem?_toList]
 by_cases hk : k < d.size
 · rw [if_pos hk]
   unfold putCells
   rw [Array.getElem?_mapIdx, Array.getElem?_eq_getElem (by omega), Array.getElem?_eq_getElem hk]
   simp only [Option.map_some, Nat.zero_add, Nat.sub_zero]
   rw [if_pos ⟨Nat.zero_le _, hk⟩, getElem!_pos d k hk]
 · rw [if_neg hk, Array.getElem?_eq_none (by omega)]
   rfl
theorem aeh {P : Program} {ρ : Go.Shelf.Ren} {α : Type} [Inhabited α] (L : SlLaysF.n6 P ρ) (enc : α → Value) (h1 : ∀ x, (enc x).oneCell' = true) (cf : α → α → Int) (hO : SWO (ltOf cf)) (hT : ∀ x y, (ltOf cf) x y = false → (ltOf cf) y x = false → x = y)
 (g : Nat) (caps : Nat → PV) (hg : ∀ args w, (callFunc g args).run P w = .ok (.enter g args) w) (hc : ∀ x y, ai P g [.one (.raw (enc x)), .one (.raw (enc y))] (al [.one (.raw (.int .i64 (cf x y)))])) (id : Nat) (e : TypeId) (l : List α) (hsz : l.length ≤ 8589934592) :
 eg P (ρ.f 6) [.one (.ref id l.length), .one (.p (.fn g 0 caps))] [(id, .arr true 1 e l.length (lf (fun x _ => .raw (enc x)) l))] (.tup [])
  [(id, .arr true 1 e l.length (lf (fun x _ => .raw (enc x)) (l.mergeSort fun x y => !(ltOf cf) y x)))] [id] := by
 intro w c us hM hus
 match us, hus with
 | [u, v], ⟨hu, hv, _⟩ =>
  obtain ⟨cs, rfl, hcl, _⟩ := hv
  have hcs : cs = [] := List.eq_nil_of_length_eq_zero hcl
  subst hcs
  have hl1 : lk [(id, ae.arr true 1 e l.length (lf (fun x _ => .raw (enc x)) l))] id = some (.arr true 1 e l.length (lf (fun x _ => .raw (enc x)) l)) := by simp [lk]
  have hu2 := (hu.2.2 _ _ _ _ hl1 rfl).2 rfl
  subst hu2
  have hob := hM.objs id _ hl1
  obtain ⟨h0, hmax, h5⟩ := hob
  have hlen : (l.mergeSort fun x y => !(ltOf cf) y x).length = l.length := List.length_mergeSort _
  have hev : ∀ f' : Nat → Nat → PV, Evo c (lk [(id, ae.arr true 1 e l.length (lf (fun x _ => .raw (enc x)) l))]) c (lk [(id, ae.arr true 1 e l.length f')]) id := fun f' =>
   .inr (.inr ⟨_, .arr true 1 e l.length f', 1, e, l.length, l.length, hl1, rfl, by simp [lk], rfl, Nat.le_refl _, fun _ => rfl, fun _ _ _ _ _ _ _ h => by cases h⟩)
  rcases Nat.eq_zero_or_pos l.length with hz | hpos
  ·
   have hl : l = [] := List.eq_nil_of_length_eq_zero hz
   subst hl
   have hform : ∃ ad cap, c.own id = .slice ad 0 cap := by
    rcases h5 with ⟨_, xs, h2, _⟩ | ⟨_, _, ad, cap, hv, _⟩
    · rcases h2.2 with ⟨hv, _⟩ | ⟨g, cap, cur, hv, _⟩
      · exact ⟨none, 0, hv⟩
      · exact ⟨_, cap, hv⟩
    · exact ⟨ad, cap, hv⟩
   obtain ⟨ad, cap, hown⟩ := hform
   have hms : ([] : List α).mergeSort (fun x y => !(ltOf cf) y x) = [] := by simp
   rw [hown, hms]
   refine (AnyF.slices_SortFunc_none { L with } ad cap (.func (.func g) #[] #[]) w).mono ?_
   rintro e' w' ⟨rfl, rfl⟩
   exact ⟨_, c, rfl, ⟨[], rfl, trivial⟩, hM, Below.refl _ _, fun _ _ _ => ⟨rfl, rfl⟩, fun id0 ob b ho hb => .inr ⟨id0, ob, ho, hb⟩, fun id0 hid => by
    rw [List.mem_singleton.1 hid]
    exact Evo.refl _ _ _⟩
  · obtain ⟨h6, xs, h2, h4⟩ : c.blk id = eo (c.own id) ∧ ∃ xs, w.ownsRow 0 e 1 (c.own id) l.length xs ∧ ∀ i j, i < l.length → j < 1 → ∃ x, xs[i * 1 + j]? = some x ∧ ap c.imm (lf (fun x _ => .raw (enc x)) l i j) x := by
     rcases h5 with h5 | ⟨h6 | h6, _⟩
     · exact h5
     · cases h6
     · omega
    obtain ⟨hxl, hrow⟩ := h2
    rcases hrow with ⟨_, hz⟩ | ⟨b, cap, cur, hown, hbase, hheap, hnc, hcm, hcs, htake⟩
    · omega
    have hblk : c.blk id b := by rw [h6, hown]; rfl
    have hlt : b < w.heap.size := (Array.getElem?_eq_some_iff.1 hheap).1
    have hcell : ∀ j, (hj : j < l.length) → cur[j]? = some (enc l[j]) := fun j hj => by
     obtain ⟨x, hx, hr⟩ := h4 j 0 hj (by omega)
     rw [Nat.mul_one, Nat.add_zero, ← htake, List.getElem?_take, if_pos (by omega), Array.getElem?_toList] at hx
     rw [hx]
     have hr : x = enc (l.getD j default) ∧ _ := hr
     rw [hr.1, List.getD_eq_getElem?_getD, List.getElem?_eq_getElem hj]
     rfl
    have hH : Holds enc w b 0 l.toArray := fun j hj => by
     have hj : j < l.length := by simpa using hj
     rw [Nat.zero_add]
     refine ⟨?_, by simp [World.frozen?, hheap]⟩
     have : l.toArray[j]! = l[j] := by rw [getElem!_pos l.toArray j (by simpa using hj)]; simp
     rw [this]
     simp [World.cell?, hheap, hcell j hj]
    have hcmp : CmpLays1 P g #[] enc cf b 0 l.toArray.size w := by
     intro m os dk hdk x y
     have hcimm : ∀ b' ob, c.imm b' = some ob → (sortWorld enc w b 0 m dk os).heap[b']? = some ob := fun b' ob hb' => by
      have hne : b' ≠ b := fun he => by
       have := hM.sep id _ b hl1 hblk
       rw [← he, hb'] at this
       cases this
      have hw := hM.imm b' ob hb'
      rw [sq (Array.getElem?_eq_some_iff.1 hw).1 hne]
      exact hw
     have h := hc x y (sortWorld enc w b 0 m dk os) c.imm [enc x, enc y] c.tab hcimm ⟨⟨rfl, h1 x⟩, ⟨rfl, h1 y⟩, trivial⟩
     refine h.mono ?_
     rintro e' w' ⟨v, imm', rfl, hr, _, _, hb⟩
     obtain ⟨q, os', hq⟩ := aac hb
     exact ⟨by rw [hr.1], q, os', hq⟩
    have hS := Any.slices_SortFunc_total L enc h1 cf hO g #[] b 0 cap l.toArray w hg hcmp hH hlt (by rw [List.size_toArray]; omega) hT
    rw [hown]
    refine Calls.mono hS ?_
    rintro e' w' ⟨rfl, m, os, rfl⟩
    generalize hSd : (l.mergeSort fun x y => !(ltOf cf) y x) = S at *
    refine ⟨_, c, rfl, ⟨[], rfl, trivial⟩, ⟨fun id0 ob ho => ?_, fun id0 id1 ob0 ob1 b' ho0 ho1 _ _ => (jl ho0).1.trans (jl ho1).1.symm, fun b' ob hb' => ?_, fun id0 ob b' ho hb' => ?_⟩, a9b,
     fun b' hb' hno => ⟨sq hb' (fun he => hno id _ hl1 (by rw [he]; exact hblk)), rfl⟩, fun id0 ob b' ho hb' => .inr ⟨id, _, hl1, by rw [← (jl ho).1]; exact hb'⟩, fun id0 hid => by
      rw [List.mem_singleton.1 hid]
      exact hev _⟩
    · obtain ⟨rfl, rfl⟩ := jl ho
      refine ⟨h0, hmax, .inl ⟨h6, S.map enc, ⟨by simp [hlen], .inr ⟨b, cap, putCells enc 0 S.toArray cur, hown, hbase, ab0 hheap, hnc, hcm, by simpa [putCells] using hcs, ?_⟩⟩, fun i j hi hj => ?_⟩⟩
      · have := ag4 (enc := enc) (d := S.toArray) (cur := cur) (by rw [List.size_toArray, hlen, hcs]; omega)
        rw [List.size_toArray, hlen] at this
        rw [Nat.mul_one]
        exact this
      · obtain rfl : j = 0 := by omega
        have hi' : i < S.length := by rw [hlen]; exact hi
        refine ⟨enc S[i], ?_, ?_⟩
        · rw [Nat.mul_one, Nat.add_zero, List.getElem?_map, List.getElem?_eq_getElem hi']
          rfl
        · show ap c.imm (.raw (enc (S.getD i default))) _
          rw [List.getD_eq_getElem?_getD, List.getElem?_eq_getElem hi']
          exact ⟨rfl, h1 _⟩
    · have hne : b' ≠ b := fun he => by
       have := hM.sep id _ b hl1 hblk
       rw [← he, hb'] at this
       cases this
      have hw := hM.imm b' ob hb'
      rw [sq (Array.getElem?_eq_some_iff.1 hw).1 hne]
      exact hw
    · have := (jl ho).1
      subst this
      exact hM.sep id0 _ b' hl1 hb'
 | [], h => exact h.elim
 | [_], ⟨_, h⟩ => exact h.elim
 | _ :: _ :: _ :: _, ⟨_, _, h⟩ => exact h.elim
theorem rj {a b : AS} : ltOf sg a b = bef a b := afh
theorem afs : SWO (ltOf sg) where
 irrefl x := by rw [rj]; exact rr x
 trans x y z h k := by rw [rj] at *; exact oe h k
 ntrans x y z h k := by
  rw [rj] at *
  rw [Bool.eq_false_iff, ne_eq, k6] at *
  omega
def srt (l : List AS) : List AS := l.mergeSort fun x y => !bef y x
theorem al8 : goodFn Tryz.prog 112 := ⟨Tryz.f112, Tryz.func112, by kernel_rfl, by kernel_rfl⟩
theorem aph (id : Nat) (caps : Nat → PV) (l : List AS) (hsz : l.length ≤ 8589934592) : eg Tryz.prog 112 [.one (.ref id l.length), .one (.p (.fn 113 0 caps))] [(id, .arr true 1 38 l.length (lf sC l))] (.tup [])
 [(id, .arr true 1 38 l.length (lf sC (srt l)))] [id] := by
 have h := aeh Tryz.laysSort (fun s : AS => .int .u32 (asI s)) (fun _ => rfl) sg afs (fun x y h k => by
  rw [rj] at h k
  apply Classical.byContradiction
  intro hne
  rcases a1m hne with h2 | h2
  · rw [h] at h2; cases h2
  · rw [k] at h2; cases h2) 113 caps (enters_of Tryz.func113 (by kernel_rfl) rfl) (fun x y => afe x y) id 38 l hsz
 have e : (fun x y : AS => !(ltOf sg) y x) = fun x y => !bef y x := by
  funext x y
  rw [rj]
 rw [e] at h
 exact h
theorem ajj {l : List AS} {x : AS} : x ∈ srt l ↔ x ∈ l := by unfold srt; exact List.mem_mergeSort
theorem a87 (l : List AS) : (srt l).length = l.length := List.length_mergeSort _
theorem um : ∀ {l : List AS} {p : Option AS}, l.Pairwise (fun a b => bef b a = false) → (∀ x, p = some x → ∀ y ∈ l, bef y x = false) → (fe p l).Pairwise (fun a b => bef a b = true) ∧ ∀ x, p = some x → ∀ y ∈ fe p l, bef x y = true
 | [], p, _, _ => ⟨by simp [fe], fun x _ y hy => by simp [fe] at hy⟩
 | z :: l, p, h, hp => by
  obtain ⟨h1, h2⟩ := List.pairwise_cons.1 h
  simp only [fe]
  split
  · rename_i e
    subst e
    exact um h2 fun x hx y hy => hp x hx y (List.mem_cons_of_mem _ hy)
  · rename_i hne
    obtain ⟨q1, q2⟩ := um (p := some z) h2 fun x hx y hy => by
     simp only [Option.some.injEq] at hx
     subst hx
     exact h1 y hy
    refine ⟨List.pairwise_cons.2 ⟨fun y hy => q2 z rfl y hy, q1⟩, fun x hx y hy => ?_⟩
    have hxz : bef x z = true := by
     have h3 := hp x hx z List.mem_cons_self
     rcases a1m (a := x) (b := z) (fun e => hne (by rw [hx, e])) with h4 | h4
     · exact h4
     · rw [h3] at h4; cases h4
    rcases List.mem_cons.1 hy with rfl | hy
    · exact hxz
    · exact oe hxz (q2 z rfl y hy)
theorem ah3 (l : List AS) : ik (srt l) = ord l := by
 refine aoa (um ?_ fun x hx => by cases hx).1 fun z => by rw [a5f, ajj]
 have h := List.pairwise_mergeSort (le := fun x y : AS => !bef y x) (fun a b c h k => by
  simp only [Bool.not_eq_true'] at *
  rw [Bool.eq_false_iff, ne_eq, k6] at *
  omega) (fun a b => by
  simp only [Bool.or_eq_true, Bool.not_eq_true']
  rw [Bool.eq_false_iff, Bool.eq_false_iff, ne_eq, ne_eq, k6, k6]
  omega) l
 refine h.imp fun {a b} hab => ?_
 simpa using hab
end Go.Hx
end
section
namespace Go.Hx
abbrev vB (b : Bool) : HR := bf (.raw (.bool b))
abbrev bx (a : PV) : PV := .vp 1 fun j => [a].getD j .any
def a0d (W : AS → AS → Bool) (l : List AS) (x : AS) : Bool := l.any fun b => decide (x ≠ b) && W x b
def aj3 (W : AS → AS → Bool) (l : List AS) : List AS := (ord l).filter fun x => !a0d W (ord l) x
def a58 (a b : AS) : Bool := decide (sub a b)
def z8 (l : List AS) : List AS := aj3 a58 l
theorem ae7 (l : List AS) : (ord l).Nodup := (te l).imp fun {a b} h e => by
 subst e
 rw [rr] at h
 cases h
def okT (l : List AS) (i k : Nat) : Bool := (List.range k).all fun j => decide (j = i) || !a58 (l.getD i default) (l.getD j default)
def as4 (l : List AS) (i : Nat) : List AS := ((ord l).take i).filter fun x => !a0d a58 (ord l) x
end Go.Hx
end
section
namespace Go.Hx
open Go.Proofs
set_option maxRecDepth 100000
theorem zp : goodFn Tryz.prog 56 := ⟨Tryz.f56, Tryz.func56, by kernel_rfl, by kernel_rfl⟩
theorem a03 (l : List AS) (hl : l.length ≤ 8589934592) : ai Tryz.prog 56 [pP (asl l)] (al [pP (asl (ord l))]) := by
 refine aj (nt := 10) ah Tryz.func56 rfl rfl l9 ?_; refine sx7 ?_; refine qy ?_; refine a6 ?_; refine sx7 ?_; refine qy ?_
 refine d5 rfl rfl rfl rfl rfl rfl ac1 (a8s l.length false (lf sC l) (by omega)) (ek.refl _) trivial rfl rfl ?_; refine qy ?_; refine a6 ?_; refine sx7 ?_; refine qy ?_
 refine d5 rfl rfl rfl rfl rfl rfl al8 (aph 0 _ l hl) (ek.refl _) ⟨u9, trivial⟩ rfl rfl ?_; refine a6 ?_; refine sx7 ?_; refine qy ?_
 refine d5 rfl rfl rfl rfl rfl rfl akz ((aho (srt l)).swap 900 0) (⟨congrArg (HV.ref 0) (a87 l).symm, trivial⟩) ⟨⟨_, rfl, a1f rfl (a87 l).symm⟩, trivial⟩ rfl rfl ?_; refine qy ?_; refine a6 ?_
 exact hx8 rfl rfl rfl (⟨CoC.one (CoP.of_eq (by rw [ah3])), trivial⟩)
theorem ajq : goodFn Tryz.prog 140 := ⟨Tryz.f140, Tryz.func140, by kernel_rfl, by kernel_rfl⟩
theorem al3 (b x : AS) (g k : Nat) (caps : Nat → PV) (W : AS → AS → Bool) (hg : goodFn Tryz.prog g) (hW : ∀ x y, ai Tryz.prog g (pA x :: pA y :: ep caps k 0) (al [pB (W x y)])) : ai Tryz.prog 140 [pA b, pP (bx (asC x)), pP (bx (.fn g k caps))] (al [pB (decide (x ≠ b) && W x b)]) := by
 refine aj (nt := 14) ah Tryz.func140 rfl rfl l9 ?_; refine sx7 ?_; refine qy ?_; refine a6 ?_; refine sx7 ?_; (iterate 4 refine qy ?_); refine ca rfl rfl (fun r0 => ?_) (fun r0 => ?_)
 ·
  have h0 := r0
  have h0 := of_decide_eq_false (b8 h0)
  try simp only [ty] at h0
  (iterate 3 refine qy ?_ (hg := (gtt r0))); refine rc rfl rfl rfl rfl rfl rfl hg (hW x b) (CoL.refl _) rfl (gtt r0) ?_; (iterate 2 refine qy ?_); refine a6 ?_
  exact hx8 rfl rfl rfl (⟨ccb (by simp_all [dp]), trivial⟩)
 ·
  have h0 := r0
  have h0 := of_decide_eq_true (b7 h0)
  try simp only [ty] at h0
  (iterate 4 refine k9 (gft r0) ?_); refine rq rfl rfl rfl rfl rfl ?_ (hp := r0); refine qy ?_; refine a6 ?_
  exact hx8 rfl rfl rfl (⟨ccb (by simp_all [dp]), trivial⟩)
theorem al5 : goodFn Tryz.prog 139 := ⟨Tryz.f139, Tryz.func139, by kernel_rfl, by kernel_rfl⟩
theorem an3 (x : AS) (l : List AS) (g k : Nat) (caps : Nat → PV) (W : AS → AS → Bool) (hg : goodFn Tryz.prog g) (hW : ∀ x y, ai Tryz.prog g (pA x :: pA y :: ep caps k 0) (al [pB (W x y)])) : ai Tryz.prog 139 [pA x, pP (bx (asl l)), pP (bx (.fn g k caps))] (al [pB (a0d W l x)]) := by
 refine aj (nt := 8) ah Tryz.func139 rfl rfl l9 ?_; refine sx7 ?_; refine m9 0 ?_; refine qy ?_; refine a6 ?_; refine a7 ?_; refine ia 3 rfl rfl rfl ?_; refine gy ?_; (iterate 2 refine qy ?_)
 refine rc rfl rfl rfl rfl rfl rfl anu (aq2 l 140 2 (fun i => [bx (asC x), bx (.fn g k caps)].getD i .any) (fun b => decide (x ≠ b) && W x b) ajq (fun b => al3 b x g k caps W hg hW)) (CoL.refl _) rfl rfl ?_
 refine qy ?_; refine a6 ?_
 exact hx8 rfl rfl rfl (CoL.refl _)
theorem amq : goodFn Tryz.prog 92 := ⟨Tryz.f92, Tryz.func92, by kernel_rfl, by kernel_rfl⟩
theorem aq1 (l : List AS) (hl : l.length ≤ 8589934592) (g k : Nat) (caps : Nat → PV) (W : AS → AS → Bool) (hg : goodFn Tryz.prog g) (hW : ∀ x y, ai Tryz.prog g (pA x :: pA y :: ep caps k 0) (al [pB (W x y)])) : ai Tryz.prog 92 [pP (asl l), pP (.fn g k caps)] (al [pP (asl (aj3 W l))]) := by
 refine aj (nt := 12) ah Tryz.func92 rfl rfl l9 ?_; refine sx7 ?_; refine m9 2 ?_; refine qy ?_; refine a6 ?_; refine sx7 ?_; refine qy ?_
 refine rc rfl rfl rfl rfl rfl rfl zp (a03 l hl) (CoL.refl _) rfl rfl ?_; refine m9 3 ?_; refine s9 ?_; refine a6 ?_; refine a7 ?_; refine ia 5 rfl rfl rfl ?_; refine ia 3 rfl rfl rfl ?_
 refine gy ?_; refine qy ?_; refine d5 rfl rfl rfl rfl rfl rfl ac1 (a8s (ord l).length false (lf sC (ord l)) (Nat.le_trans (vu l) (by omega))) (ek.refl _) trivial rfl rfl ?_; refine qy ?_
 refine d5 rfl rfl rfl rfl rfl rfl am3 ((apa (ord l) 139 2 (fun i => [bx (asl (ord l)), bx (.fn g k caps)].getD i .any) (a0d W (ord l)) al5 (fun x => an3 x (ord l) g k caps W hg hW)).swap 900 0) (ek.refl _) ⟨u9, trivial⟩ rfl rfl ?_
 refine qy ?_; refine a6 ?_
 exact hx8 rfl rfl rfl (CoL.refl _)
theorem ap1 : goodFn Tryz.prog 93 := ⟨Tryz.f93, Tryz.func93, by kernel_rfl, by kernel_rfl⟩
theorem aql (a b : AS) : ai Tryz.prog 93 [pA a, pA b] (al [pB (a58 a b)]) := by
 refine aj (nt := 9) ah Tryz.func93 rfl rfl l9 ?_; refine sx7 ?_; refine qy ?_; refine a6 ?_; refine sx7 ?_; (iterate 5 refine qy ?_); refine a6 ?_
 exact hx8 rfl rfl rfl (⟨ccb (decide_eq_decide.2 a6z), trivial⟩)
theorem aov : goodFn Tryz.prog 46 := ⟨Tryz.f46, Tryz.func46, by kernel_rfl, by kernel_rfl⟩
theorem ahy (l : List AS) (hl : l.length ≤ 8589934592) : ai Tryz.prog 46 [pP (asl l)] (al [pP (asl (z8 l))]) := by
 refine aj (nt := 5) ah Tryz.func46 rfl rfl l9 ?_; refine sx7 ?_; refine qy ?_; refine a6 ?_; refine sx7 ?_; refine qy ?_
 refine rc rfl rfl rfl rfl rfl rfl amq (aq1 l hl 93 0 _ a58 ap1 (fun a b => aql a b)) (CoL.refl _) rfl rfl ?_; refine qy ?_; refine a6 ?_
 exact hx8 rfl rfl rfl (CoL.refl _)
end Go.Hx
end
section
namespace Go.Hx
def aik (l : List Fd) : List Fd := l.foldl (fun o x => if x ∈ o then o else o ++ [x]) []
def asa (l : List Fd) (i k : Nat) : Bool := (l.take k).any fun x => decide (x = l.getD i default)
def abi (f : Fd) : List Fd := (aw (f.rhs &&& ~~~f.lhs)).map fun a => (⟨f.lhs, (1 : AS) <<< a⟩ : Fd)
def a6f (l : List Fd) : List Fd := (l.map abi).flatten
def arv (l : List Fd) (i k : Nat) : List Fd := a6f (l.take i) ++ (abi (l.getD i default)).take k
theorem a6c (s : AS) : (aw s).length ≤ 32 := by rw [← ou]; exact acz s
def exB (l : List Fd) (x : Fd) (a : Nat) : Bool := imp l ⟨x.lhs &&& ~~~((1 : AS) <<< a), x.rhs⟩
def a8o (l : List Fd) (i : Nat) : List Fd := l.take i ++ l.drop (i + 1)
def ar2 (l : List Fd) (i : Nat) : Bool := imp (a8o l i) (l.getD i default)
end Go.Hx
end
section
namespace Go.Hx
open Go.Proofs
set_option maxRecDepth 100000
def rwC (l : List Fd) : Nat → PV
 | 0 => fdl l
 | _ => .any
abbrev asv (ls : List (List Fd)) : PV := psl 1 rwC ls
end Go.Hx
end
section
namespace Go.Hx
def as0 (l : List Fd) (i k : Nat) : List Fd := a6f (l.take i) ++ (aqh ((l.getD i default).rhs &&& ~~~(l.getD i default).lhs) k).map fun a => (⟨(l.getD i default).lhs, (1 : AS) <<< a⟩ : Fd)
def aqp (x : Fd) (a : Nat) : Fd := ⟨x.lhs &&& ~~~((1 : AS) <<< a), x.rhs⟩
def afo (i : Nat) (l : List Fd) (a : Nat) : List Fd := if dm (l.getD i default).lhs a && exB l (l.getD i default) a then l.set i (aqp (l.getD i default) a) else l
def at6 (l : List Fd) (i k : Nat) : List Fd := ((aw (l.getD i default).lhs).take k).foldl (afo i) l
def aqr (l : List Fd) (i : Nat) : List Fd := (aw (l.getD i default).lhs).foldl (afo i) l
def ar5 (l : List Fd) (i : Nat) : List Fd := (List.range i).foldl aqr l
def a9s : Nat → List Fd → Nat → List Fd
 | 0, l, _ => l
 | f + 1, l, i => if i < l.length then (if ar2 l i then a9s f (a8o l i) i else a9s f l (i + 1)) else l
def spl (l : List Fd) : List Fd := aik (a6f l)
def abn (l : List Fd) : List Fd := aik (ar5 (spl l) (spl l).length)
def ar8 (l : List Fd) : List Fd := a9s (abn l).length (abn l) 0
def as6 (t : AS) (l : List Fd) : Prop := ∀ x ∈ l, sub x.lhs t
end Go.Hx
end
section
namespace Go.Hx
def aax (n : Int) (l : List Fd) : List Fd := if cb n l = 0 then ar8 l else []
theorem aag {s : Nat} {cl : Bool} {f : Nat → Nat → PV} {L : List AS} (h : L = []) : CoP (.sl 0 s cl f) (asl L) := by subst h; exact aoq
def atd (l : List Fd) (i k : Nat) : List Fd := (List.range k).foldl (afo i) l
end Go.Hx
end
section
namespace Go.Hx
theorem zt (a b : Nat) : a &&& b = 2 * (a / 2 &&& b / 2) + (a % 2 &&& b % 2) := by
 have h1 := Nat.div_add_mod (a &&& b) 2
 have h2 : (a &&& b) % 2 = a % 2 &&& b % 2 := by
  have := Nat.and_mod_two_pow (a := a) (b := b) (n := 1)
  simpa using this
 rw [Nat.and_div_two, h2] at h1
 exact h1.symm
theorem a88 (a b : Nat) : (a % 2 &&& b % 2) = if a % 2 = 1 ∧ b % 2 = 1 then 1 else 0 := by
 rcases Nat.mod_two_eq_zero_or_one a with h | h <;> rcases Nat.mod_two_eq_zero_or_one b with k | k <;> rw [h, k] <;> rfl
theorem a2r {x s : Nat} (h : x &&& s = x) : (x / 2 &&& s / 2 = x / 2) ∧ (x % 2 = 1 → s % 2 = 1) := by
 have h1 := zt x s
 rw [h, a88] at h1
 split at h1 <;> rename_i hc
 · exact ⟨by omega, fun _ => hc.2⟩
 · exact ⟨by omega, fun hx => by omega⟩
theorem ag6 : ∀ (x s z : Nat), x &&& s = x → z &&& s = z → z < x → z ≤ ((x - 1) &&& s) := by
 intro x
 induction x using Nat.strongRecOn with
 | _ x ih =>
  intro s z hx hz hlt
  obtain ⟨x1, x2⟩ := a2r hx
  obtain ⟨z1, z2⟩ := a2r hz
  rw [zt (x - 1) s, a88]
  rcases Nat.mod_two_eq_zero_or_one x with hb | hb
  · have e1 : (x - 1) / 2 = x / 2 - 1 := by omega
    have e2 : (x - 1) % 2 = 1 := by omega
    have := ih (x / 2) (by omega) (s / 2) (z / 2) x1 z1 (by omega)
    rw [e1, e2]
    by_cases hs : s % 2 = 1
    · rw [if_pos ⟨rfl, hs⟩]; omega
    · rw [if_neg (fun h => hs h.2)]
      have : z % 2 = 0 := by omega
      omega
  · have e1 : (x - 1) / 2 = x / 2 := by omega
    have e2 : (x - 1) % 2 = 0 := by omega
    rw [e1, e2, x1, if_neg (by omega)]
    omega
theorem a6q {z s : AS} : sub z s ↔ z.toNat &&& s.toNat = z.toNat := by
 rw [← BitVec.toNat_and, BitVec.toNat_inj, c5]
 constructor
 · intro h
   apply BitVec.eq_of_getLsbD_eq
   intro k hk
   rw [BitVec.getLsbD_and]
   cases hz : z.getLsbD k with
   | false => rfl
   | true => rw [h k hk hz]; rfl
 · intro h i _ hi
   rw [← h, BitVec.getLsbD_and] at hi
   simp at hi
   exact hi.2
theorem ak9 {z s : AS} (h : sub z s) : bsz z ≤ bsz s := by
 unfold bsz
 apply List.countP_mono_left
 intro i hi hb
 exact c5.1 h i (List.mem_range.1 hi) hb
def su (s : AS) : Nat → AS → List AS
 | 0, _ => []
 | n + 1, x => x :: if x = 0 then [] else su s n ((x - 1) &&& s)
theorem a6d {x : AS} (h : x ≠ 0) : (x - 1).toNat = x.toNat - 1 := by
 have h0 : x.toNat ≠ 0 := fun e => h (BitVec.eq_of_toNat_eq e)
 have := x.isLt
 rw [BitVec.toNat_sub]
 show (2 ^ 32 - 1 + x.toNat) % 2 ^ 32 = _
 omega
theorem y6 {x s : AS} : sub ((x - 1) &&& s) s := by
 rw [a6q, BitVec.toNat_and, Nat.and_assoc, Nat.and_self]
theorem qf {x s : AS} (h : x ≠ 0) : ((x - 1) &&& s).toNat < x.toNat := by
 have h0 : x.toNat ≠ 0 := fun e => h (BitVec.eq_of_toNat_eq e)
 rw [BitVec.toNat_and, a6d h]
 have : ((x.toNat - 1) &&& s.toNat) ≤ x.toNat - 1 := Nat.and_le_left
 omega
theorem a6a {x s z : AS} (hx : sub x s) (hz : sub z s) (h : z.toNat < x.toNat) : z.toNat ≤ ((x - 1) &&& s).toNat := by
 have h0 : x ≠ 0 := fun e => by subst e; exact absurd h (Nat.not_lt_zero _)
 rw [BitVec.toNat_and, a6d h0]
 exact ag6 _ _ _ (a6q.1 hx) (a6q.1 hz) h
theorem a3x {s : AS} : ∀ (n : Nat) (x : AS), sub x s → x.toNat < n → ∀ z, z ∈ su s n x ↔ sub z s ∧ z.toNat ≤ x.toNat
 | 0, x, _, h, z => absurd h (Nat.not_lt_zero _)
 | n + 1, x, hx, h, z => by
  unfold su
  by_cases h0 : x = 0
  · rw [if_pos h0, List.mem_singleton]
    subst h0
    constructor
    · rintro rfl; exact ⟨hx, Nat.le_refl _⟩
    · rintro ⟨_, h⟩
      exact BitVec.eq_of_toNat_eq (Nat.le_antisymm h (Nat.zero_le _))
  · rw [if_neg h0, List.mem_cons, a3x n _ y6 (by have := qf (s := s) h0; omega)]
    constructor
    · rintro (rfl | ⟨h1, h2⟩)
      · exact ⟨hx, Nat.le_refl _⟩
      · have := qf (s := s) h0
        exact ⟨h1, by omega⟩
    · rintro ⟨h1, h2⟩
      by_cases he : z = x
      · exact .inl he
      · have hne : z.toNat ≠ x.toNat := fun e => he (BitVec.eq_of_toNat_eq e)
        exact .inr ⟨h1, a6a hx h1 (by omega)⟩
def th (s : AS) : List AS := ord (su s (s.toNat + 1) s)
theorem sub_self (s : AS) : sub s s := by rw [a6q, Nat.and_self]
theorem ai9 {z s : AS} (h : sub z s) : z.toNat ≤ s.toNat := by rw [← a6q.1 h]; exact Nat.and_le_right
theorem a2h {s z : AS} : z ∈ th s ↔ sub z s := by
 unfold th
 rw [ne, a3x _ _ (sub_self s) (Nat.lt_succ_self _)]
 exact ⟨fun h => h.1, fun h => ⟨h, ai9 h⟩⟩
theorem afw {l : List AS} {s : AS} (ho : mh l) (h : ∀ z, z ∈ l ↔ sub z s) : l = th s := pe ho (te _) fun z => by rw [h z]; exact a2h.symm
def cw (s : AS) : List AS := if 12 < bsz s then [] else th s
theorem ajb {s : AS} (h : (12 : Int) < bsz s) : cw s = [] := if_pos (by omega)
theorem ajr {s : AS} (h : ¬ (12 : Int) < bsz s) : cw s = th s := if_neg (by omega)
def zf (s : AS) (y : List AS × AS) : Prop := sub y.2 s ∧ y.1.length + y.2.toNat ≤ s.toNat + 1 ∧ ∀ z, z ∈ y.1 ↔ sub z s ∧ y.2.toNat ≤ z.toNat
theorem ac2 (s : AS) : zf s ([s], s) := ⟨sub_self s, by simp only [List.length_singleton]; omega, fun z => by
 rw [List.mem_singleton]
 constructor
 · rintro rfl; exact ⟨sub_self _, Nat.le_refl _⟩
 · rintro ⟨h1, h2⟩; exact BitVec.eq_of_toNat_eq (Nat.le_antisymm (ai9 h1) h2)⟩
theorem ach {s : AS} {y : List AS × AS} (h : zf s y) (h0 : y.2 ≠ 0) : zf s (y.1 ++ [(y.2 - 1) &&& s], (y.2 - 1) &&& s) := by
 obtain ⟨h1, h2, h3⟩ := h
 have hl := qf (s := s) h0
 refine ⟨y6, by simp only [List.length_append, List.length_singleton]; omega, fun z => ?_⟩
 rw [List.mem_append, List.mem_singleton, h3]
 constructor
 · rintro (⟨k1, k2⟩ | rfl)
   · exact ⟨k1, by dsimp only; omega⟩
   · exact ⟨y6, Nat.le_refl _⟩
 · rintro ⟨k1, k2⟩
   dsimp only at k2
   by_cases hz : y.2.toNat ≤ z.toNat
   · exact .inl ⟨k1, hz⟩
   · have := a6a h1 k1 (by omega)
     exact .inr (BitVec.eq_of_toNat_eq (by omega))
theorem ag2 {s : AS} {y : List AS × AS} (h : zf s y) (h0 : y.2 = 0) : ord y.1 = th s := afw (te _) fun z => by
 rw [ne, h.2.2, h0]
 exact ⟨fun h => h.1, fun h => ⟨h, Nat.zero_le _⟩⟩
def nxt (x s : Nat) : Nat := if x = s then s + 1 else ((2 ^ 64 + x - s) &&& s)
def UpI (s : AS) (k : Nat) (y : List AS × Nat) : Prop :=
 (y.2 = s.toNat + 1 ∨ y.2 &&& s.toNat = y.2) ∧ y.1.length ≤ k * 4294967296 + y.2 ∧ mh y.1 ∧ ∀ z, z ∈ y.1 ↔ sub z s ∧ (bsz z < k ∨ bsz z = k ∧ z.toNat < y.2)
def UpK (s : AS) (k : Nat) (l : List AS) : Prop := l.length ≤ k * 4294967296 ∧ mh l ∧ ∀ z, z ∈ l ↔ sub z s ∧ bsz z < k
abbrev pU (n : Nat) : PC := .one (.raw (.int .u64 (n : Int)))
abbrev vU (n : Nat) : HR := bf (.raw (.int .u64 (n : Int)))
theorem a5c {x s : AS} (h : x ≠ 0) : cq .and .u32 (asI x - 1) (asI s) = asI ((x - 1) &&& s) := by rw [a67 h, gv]
theorem a3u {α : Type} [Inhabited α] {wr wr' : Bool} {e : TypeId} {c : α → Nat → PV} {x : α} {f : Nat → Nat → PV} (h : CoP (f 0 0) (c x 0)) (hw : wr' = true → wr = true := by exact fun h => h) : CoO (.arr wr 1 e 1 f) (.arr wr' 1 e [x].length (lf c [x])) :=
 ⟨hw, rfl, rfl, rfl, fun i j hi hj => by
  have hi : i < 1 := hi
  have hj : j < 1 := hj
  obtain rfl : j = 0 := by omega
  obtain rfl : i = 0 := by omega
  exact h⟩
end Go.Hx
end
section
namespace Go.Hx
open Go.Proofs
set_option maxRecDepth 100000
theorem amx : goodFn Tryz.prog 53 := ⟨Tryz.f53, Tryz.func53, by kernel_rfl, by kernel_rfl⟩
theorem aqn (s : AS) : ai Tryz.prog 53 [pA s] (al [pP (asl (cw s))]) := by
 refine aj (nt := 23) ah Tryz.func53 rfl rfl l9 ?_; refine sx7 ?_; refine qy ?_; refine a6 ?_; refine a7 ?_; refine sx7 ?_; refine qy ?_; refine rc rfl rfl rfl rfl rfl rfl w9 (a3h s) (CoL.refl _) rfl rfl ?_
 refine qy ?_; refine a6 ?_; refine a8 _ rfl (fun r0 => ?_) (fun r0 => ?_)
 ·
  have h0 := of_decide_eq_true r0
  try simp only [ty] at h0
  refine sx7 ?_; refine qy ?_; refine a6 ?_
  exact hx8 rfl rfl rfl (⟨CoC.one (aag (ajb h0)), trivial⟩)
 ·
  have h0 := of_decide_eq_false r0
  try simp only [ty] at h0
  refine aa ?_; refine sx7 ?_; refine qy ?_; refine m9 0 ?_; refine qy ?_; refine a6 ?_; refine a7 ?_; refine sx7 ?_; (iterate 2 refine qy ?_); refine a6 ?_; refine ab ?_
  refine ao (ι := List AS × AS) ⟨[(0, some _)], []⟩ ⟨⟨c9, trivial⟩, trivial⟩ (fun y => ⟨[(3, some (.v (.one (.ref 0 y.1.length)))), (4, some (vA y.2))], [(0, some (.arr true 1 38 y.1.length (lf sC y.1)))]⟩) (fun y => zf s y) (fun y => y.2.toNat) (([s], s)) (ac2 s) ⟨⟨zy, zy, trivial⟩, ⟨⟨_, rfl, (a3u (CoP.refl _))⟩, trivial⟩⟩ ?_
  rintro y hy
  have hlen := hy.2.1
  have hsl := s.isLt
  refine a7 ?_; refine sx7 ?_; (iterate 2 refine qy ?_); refine a6 ?_; refine a8 _ rfl (fun r1 => ?_) (fun r1 => ?_)
  ·
   have h1 := r1
   have h1 := of_decide_eq_false (b8 h1)
   try simp only [ty] at h1
   have hne : y.2 ≠ 0 := fun e => h1 (by rw [e]; rfl)
   refine aa ?_; refine ab ?_; refine sx7 ?_; refine qy ?_; refine rq rfl rfl rfl rfl rfl ?_ (hp := (a52 hne)); (iterate 3 refine qy ?_); refine a6 ?_; refine gy ?_; (iterate 2 refine qy ?_); refine m9 1 ?_
   refine ra 2 true rfl rfl rfl rfl rfl rfl ?_; refine qy ?_; refine a6 ?_; refine ⟨(y.1 ++ [(y.2 - 1) &&& s], (y.2 - 1) &&& s), ?_, ?_, ?_⟩
   · exact ach hy hne
   · exact qf hne
   · exact ⟨⟨⟨_, rfl, (fv rfl)⟩, ⟨_, rfl, (ja (a5c hne))⟩, c9, trivial⟩, ⟨⟨_, rfl, (gt rfl (CoP.of_eq (by rw [a5c hne]; rfl)))⟩, trivial⟩⟩
  ·
   have h1 := r1
   have h1 := of_decide_eq_true (b7 h1)
   try simp only [ty] at h1
   have hz : y.2 = 0 := dp.1 h1
   refine ar ?_; refine a7 ?_; refine ce 3 rfl rfl rfl ?_; refine gy ?_; refine qy ?_; refine rc rfl rfl rfl rfl rfl rfl zp (a03 y.1 (by omega)) (CoL.refl _) rfl rfl ?_; refine qy ?_; refine a6 ?_
   exact hx8 rfl rfl rfl (⟨CoC.one (CoP.of_eq (by rw [ajr h0, ag2 hy hz])), trivial⟩)
end Go.Hx
end
section
namespace Go.Hx
def aqs (l : List Fd) (p x : AS) : Bool := decide (clo l x &&& p ≠ x) && decide (clo l x &&& p ≠ p)
def aij (l : List Fd) (p : AS) : Option AS := (cw p).find? (aqs l p)
def aqo (l : List Fd) (p x : AS) : Fd := ⟨x, (clo l x &&& p) &&& ~~~x⟩
def a3i (l : List Fd) (p : AS) : Fd := match aij l p with
 | some x => aqo l p x
 | none => ⟨0, 0⟩
def mq (l : List Fd) (p : AS) : Bool := (aij l p).isSome
theorem a2v {s : AS} : ∀ (n : Nat) (x : AS), (su s n x).length ≤ x.toNat + 1
 | 0, x => Nat.zero_le _
 | n + 1, x => by
  unfold su
  by_cases h0 : x = 0
  · rw [if_pos h0]; simp
  · rw [if_neg h0, List.length_cons]
    have h1 := a2v (s := s) n ((x - 1) &&& s)
    have h2 := qf (s := s) h0
    omega
theorem aew (s : AS) : (cw s).length ≤ 4294967296 := by
 unfold cw th
 have h1 := a2v (s := s) (s.toNat + 1) s
 have h2 := vu (su s (s.toNat + 1) s)
 have h3 := s.isLt
 split
 · simp
 · omega
end Go.Hx
end
section
namespace Go.Hx
open Go.RowKit
section
variable {w0 : World} {nt : Nat} {c : Ctx} {s : S} {a : Act} {w : World}
theorem ak.short (h : ak w0 nt c s a w) {id id' sz n m : Nat} {el : TypeId} {f : Nat → Nat → PV} (ho : s.o id = some (.arr true sz el n f)) (hm : m ≤ n) (hnm : NM s id') (hno : s.o id' = none) {u : Value} (hu : az c s.o (.win id n 0 m) u) :
 ∃ c', c'.old = c.old ∧ ak w0 nt c' ((s.setO id none).setO id' (some (.arr true sz el m f))) a w ∧ am c' ((s.setO id none).setO id' (some (.arr true sz el m f))).o (.v (.one (.ref id' m))) u := by
 have hne : id ≠ id' := fun e => by rw [← e, ho] at hno; cases hno
 obtain ⟨ad, ad', cap, q1, q2, q3, q4, q5, q6⟩ := n8 hu ho rfl
 obtain ⟨h0, h1, h5⟩ := h.objs id _ ho
 have hold : ∀ k ob, ((s.setO id none).setO id' (some (.arr true sz el m f))).o k = some ob → k ≠ id' → s.o k = some ob ∧ k ≠ id := fun k ob hk hk' => by
  simp only [S.setO, if_neg hk'] at hk
  by_cases hki : k = id
  · subst hki; simp at hk
  · rw [if_neg hki] at hk; exact ⟨hk, hki⟩
 obtain ⟨bk, hbk, hok⟩ : ∃ bk : Nat → Prop, (∀ b, bk b → c.blk id b) ∧ ∀ c' : Ctx, c'.imm = c.imm → c'.own id' = u → c'.blk id' = bk → ∀ o' : aq, ci 0 c' o' w id' (.arr true sz el m f) := by
  rcases h5 with ⟨h6, xs, h2, h4⟩ | ⟨h6 | h6, h7, h8⟩
  · obtain ⟨hxl, hrow⟩ := h2
    rcases hrow with ⟨hv0, hz⟩ | ⟨g, cap', cur, hown, hbase, hheap, hnc, hcm, hcs, htake⟩
    · rw [hv0] at q1
      simp only [Value.slice.injEq] at q1
      obtain ⟨rfl, _, rfl⟩ := q1
      obtain rfl : n = 0 := by omega
      obtain rfl : m = 0 := by omega
      refine ⟨noB, fun b hb => hb.elim, fun c' e1 e2 e3 o' => ⟨h0, Nat.zero_le _, .inr ⟨.inr rfl, e3, ?_⟩⟩⟩
      rw [e2, q2]
      exact ⟨ad', 0, rfl, Nat.le_refl _, Nat.zero_le _, fun _ => rfl, fun h => absurd h (Nat.lt_irrefl 0)⟩
    · rw [hown] at q1
      simp only [Value.slice.injEq, true_and] at q1
      obtain ⟨rfl, rfl⟩ := q1
      by_cases hcap : cap' = 0
      · subst hcap
        obtain rfl : m = 0 := by omega
        refine ⟨noB, fun b hb => hb.elim, fun c' e1 e2 e3 o' => ⟨h0, Nat.zero_le _, .inr ⟨.inr rfl, e3, ?_⟩⟩⟩
        rw [e2, q2]
        exact ⟨ad', 0, rfl, Nat.le_refl _, Nat.zero_le _, fun _ => rfl, fun h => absurd h (Nat.lt_irrefl 0)⟩
      · obtain rfl := q6 (by omega)
        simp only [Option.map_some, bq, Nat.zero_mul, Nat.add_zero, Nat.sub_zero] at q2
        have hmul : m * sz ≤ n * sz := Nat.mul_le_mul_right _ hm
        refine ⟨eo u, fun b hb => by rw [h6, hown]; rw [q2] at hb; exact hb, fun c' e1 e2 e3 o' => ⟨h0, Nat.le_trans hm h1, .inl ⟨by rw [e2, e3], xs.take (m * sz), ⟨by rw [List.length_take, hxl, Nat.min_eq_left hmul], .inr ⟨g, cap', cur, by rw [e2, q2], hbase, hheap, by omega, hcm, hcs, ?_⟩⟩, fun i j hi hj => ?_⟩⟩⟩
        · rw [← htake, List.take_take, Nat.min_eq_left hmul]
        · obtain ⟨x, hx, hr⟩ := h4 i j (by omega) hj
          refine ⟨x, ?_, by rw [e1]; exact hr⟩
          rw [List.getElem?_take, if_pos (qw hi hj)]
          exact hx
  · cases h6
  · subst h6
    obtain rfl : m = 0 := by omega
    refine ⟨noB, fun b hb => hb.elim, fun c' e1 e2 e3 o' => ⟨h0, Nat.zero_le _, .inr ⟨.inr rfl, e3, ?_⟩⟩⟩
    obtain ⟨ad2, cap2, r1, r2, r3, r4, _⟩ := h8
    rw [q1] at r1
    simp only [Value.slice.injEq, true_and] at r1
    obtain ⟨rfl, rfl⟩ := r1
    obtain rfl : cap = 0 := r4 rfl
    rw [e2, q2]
    exact ⟨ad', 0, rfl, Nat.le_refl _, Nat.zero_le _, fun _ => rfl, fun h => absurd h (Nat.lt_irrefl 0)⟩
 have hevo : ∀ k, k ≠ id' → Evo c s.o { c with own := fun k => if k = id' then u else c.own k, blk := fun k => if k = id' then bk else c.blk k } ((s.setO id none).setO id' (some (.arr true sz el m f))).o k := fun k hk => by
  by_cases hki : k = id
  · subst hki
    exact .inl (by simp [S.setO, hk])
  · exact Evo.of_same (by simp [S.setO, hk, hki]) (by simp [hk])
 refine ⟨{ c with own := fun k => if k = id' then u else c.own k, blk := fun k => if k = id' then bk else c.blk k }, rfl, ⟨h.defers, h.size, h.below, fun d x hx => ?_, fun k ob hk => ?_, fun i i' obi obi' b hi hi' hb hb' => ?_, h.imm, fun k ob b hk hb => ?_, h.was, h.frm, fun k ob b hk hb => ?_, fun k hk => ?_⟩, ?_⟩
 · exact (h.tmps d x hx).evo (Imm.le.refl c.imm) fun k hkm => hevo k (by rintro rfl; exact hnm.1 d x hx hkm)
 · by_cases hk' : k = id'
   · subst hk'
     obtain rfl : ob = .arr true sz el m f := by simpa [S.setO] using hk.symm
     refine hok _ ?_ ?_ ?_ _ <;> first | rfl | exact if_pos rfl
   · obtain ⟨hk1, hk2⟩ := hold k ob hk hk'
     exact (h.objs k ob hk1).keep (Imm.le.refl c.imm) (by simp [hk']) (by simp [hk']) (fun j hj => hevo j (by rintro rfl; exact hnm.2.1 k ob hk1 hj)) fun b _ => rfl
 · have hone : ∀ k ob b, k ≠ id' → ((s.setO id none).setO id' (some (.arr true sz el m f))).o k = some ob → c.blk k b → bk b → False := fun k ob b hk' hk hb hbb => by
    obtain ⟨hk1, hk2⟩ := hold k ob hk hk'
    exact hk2 (h.inj k id ob _ b hk1 ho hb (hbk b hbb))
   by_cases e1 : i = id'
   · by_cases e2 : i' = id'
     · rw [e1, e2]
     · exact (hone i' obi' b e2 hi' (by simpa [e2] using hb') (by simpa [e1] using hb)).elim
   · by_cases e2 : i' = id'
     · exact (hone i obi b e1 hi (by simpa [e1] using hb) (by simpa [e2] using hb')).elim
     · exact h.inj i i' obi obi' b (hold i obi hi e1).1 (hold i' obi' hi' e2).1 (by simpa [e1] using hb) (by simpa [e2] using hb')
 · by_cases hk' : k = id'
   · exact h.sep id _ b ho (hbk b (by simpa [hk'] using hb))
   · exact h.sep k ob b (hold k ob hk hk').1 (by simpa [hk'] using hb)
 · by_cases hk' : k = id'
   · exact h.fsep id _ b ho (hbk b (by simpa [hk'] using hb))
   · exact h.fsep k ob b (hold k ob hk hk').1 (by simpa [hk'] using hb)
 · exact (h.fixed k hk).trans (hevo k (by have := hnm.2.2; omega))
 · refine ⟨hu.1, fun l => by simp [S.setO], fun ob2 s2 e2 n2 ho2 hd2 => ?_⟩
   simp only [S.setO, if_true, Option.some.injEq] at ho2
   subst ho2
   simp only [ae.dim, Option.some.injEq, Prod.mk.injEq] at hd2
   obtain ⟨rfl, rfl, rfl⟩ := hd2
   exact ⟨Nat.le_refl _, fun _ => by simp⟩
end
section
variable {ro : Option Nat} {P : Program} {nt : Nat} {st : HSt} {Q : Exit → HSt → Prop}
theorem af0 {c : Code} (d id2 : Nat) {id n n' i m s : Nat} {e : TypeId} {f : Nat → Nat → PV} (hd : b9 st.t d = some (.v (.one (.win id n i m)))) (ho : b9 st.o id = some (.arr true s e n' f)) (hn : n' = n) (hi : i = 0) (hm : m ≤ n) (hnew : l6 id2 st = true)
 (h : HW (ro := ro) P nt c ⟨(d, some (.v (.one (.ref id2 m)))) :: st.t, (id2, some (.arr true s e m f)) :: (id, none) :: st.o⟩ Q) : HW (ro := ro) P nt c st Q := by
 subst hn hi
 obtain ⟨hnm, hno⟩ := gp hnew
 refine qt ⟨st.t, (id2, some (.arr true s e m f)) :: (id, none) :: st.o⟩ d (.v (.one (.ref id2 m))) (fun w0 m0 a w hr => ?_) h
 obtain ⟨cc, hold, hrr⟩ := hr
 obtain ⟨c', e1, e2, e3⟩ := hrr.short ho hm hnm hno (hrr.tmps d _ hd)
 have e4 : (HSt.den ⟨st.t, (id2, some (.arr true s e m f)) :: (id, none) :: st.o⟩) = (st.den.setO id none).setO id2 (some (.arr true s e m f)) := by
  unfold HSt.den S.setO
  simp [bd]
 exact ⟨c', e1.trans hold, by rw [e4]; exact e2, by rw [e4]; exact e3⟩
theorem vo {c : Code} (d id2 : Nat) {id n n' s : Nat} {e : TypeId} {f : Nat → Nat → PV} (hd : b9 st.t d = some (.v (.one (.ref id n)))) (ho : b9 st.o id = some (.arr true s e n' f)) (hn : n' = n) (hnew : l6 id2 st = true)
 (h : HW (ro := ro) P nt c ⟨(d, some (.v (.one (.ref id2 n)))) :: st.t, (id2, some (.arr true s e n f)) :: (id, none) :: st.o⟩ Q) : HW (ro := ro) P nt c st Q := by
 subst hn
 obtain ⟨hnm, hno⟩ := gp hnew
 refine qt ⟨st.t, (id2, some (.arr true s e n' f)) :: (id, none) :: st.o⟩ d (.v (.one (.ref id2 n'))) (fun w0 m0 a w hr => ?_) h
 obtain ⟨cc, hold, hrr⟩ := hr
 have hu : az cc st.den.o (.ref id n') (a.tmps.getD d undef) := hrr.tmps d _ hd
 have hw : az cc st.den.o (.win id n' 0 n') (a.tmps.getD d undef) := by
  refine ⟨hu.1, hu.2.1, fun ob s2 e2 n2 ho2 hd2 => ⟨(hu.2.2 _ _ _ _ ho2 hd2).1, fun hk => ?_⟩⟩
  have he := (hu.2.2 _ _ _ _ ho2 hd2).2 hk
  obtain rfl : ob = .arr true s e n' f := Option.some.inj (ho2.symm.trans ho)
  simp only [ae.dim, Option.some.injEq, Prod.mk.injEq] at hd2
  obtain ⟨rfl, rfl, rfl⟩ := hd2
  obtain ⟨ad, cap, hv, hc1, hc2⟩ := nb (hrr.objs _ _ ho2)
  exact ⟨ad, ad, cap, hv, by rw [he, hv]; rfl, by omega, hc1, hc2, fun _ => by cases ad <;> simp [i9]⟩
 obtain ⟨c', e1, e2, e3⟩ := hrr.short ho (Nat.le_refl _) hnm hno hw
 have e4 : (HSt.den ⟨st.t, (id2, some (.arr true s e n' f)) :: (id, none) :: st.o⟩) = (st.den.setO id none).setO id2 (some (.arr true s e n' f)) := by
  unfold HSt.den S.setO
  simp [bd]
 exact ⟨c', e1.trans hold, by rw [e4]; exact e2, by rw [e4]; exact e3⟩
end
end Go.Hx
end
section
namespace Go.Hx
theorem a0r {id n m : Nat} (h : n = m) : CoR (.v (.one (.ref id n))) (.v (.one (.ref id m))) := by rw [h]; exact CoR.refl _
end Go.Hx
end
section
namespace Go.Hx
def ao5 (l : List Fd) (p : AS) : Int := if cb 16 l = 0 then (if 8 < bsz p then 3 else if p >>> 16 = 0 then 0 else 1) else cb 16 l
def at7 (l : List Fd) (p : AS) : Fd := if ao5 l p = 0 then a3i l p else ⟨0, 0⟩
def as3 (l : List Fd) (p : AS) : Bool := decide (ao5 l p = 0) && mq l p
def bcP (n : Int) (l : List Fd) (f : Fd) : Bool := decide (f.rhs &&& ~~~f.lhs ≠ 0) && decide (clo l f.lhs ≠ ay n)
def bcS (n : Int) (l : List Fd) : Bool := decide (cb n l = 0) && !l.any (bcP n l)
def ab1 (n : Int) (l : List Fd) : List AS := if y7 n l 8 = 0 then (cw (ay n)).filter fun s => !mq l s else []
end Go.Hx
end
section
namespace Go.Hx
def ain (l : List Fd) (p z : AS) : AS := (p &&& clo l (z &&& p)) &&& ~~~z
def aq9 (l : List Fd) (z p : AS) : Bool := decide (ain l p z ≠ 0)
def ahq (l : List Fd) (ps : List AS) : Nat → AS → AS
 | 0, z => z
 | n + 1, z => match ps.find? (aq9 l z) with
  | none => z
  | some p => ahq l ps n (z ||| ain l p z)
def agl (l : List Fd) (ps : List AS) (z : AS) : AS := ahq l ps 4294967297 z
def a9g (l : List Fd) (ps : List AS) (f : Fd) : Bool := decide (sub f.rhs (agl l ps f.lhs))
def at3 (l : List Fd) (ps : List AS) (z0 : AS) (x : Nat × List Nat × AS) : Prop := ahq l ps x.1 x.2.2 = agl l ps z0 ∧ 4294967296 < x.1 + x.2.2.toNat ∧ x.2.1.length + x.1 = 4294967297
def aso (l : List Fd) (ps : List AS) (i : Nat) : List Nat := (List.range i).filter fun j => !a9g l ps (l.getD j default)
def ap5 (l : List Fd) (ps : List AS) : Bool := (List.range l.length).all fun j => a9g l ps (l.getD j default)
end Go.Hx
end
