/- A part of the proof: lemmas for the theorem of this claim, merged by a program of ours out of SrW, Cs10, V8, Cs11, Gr, V9, Cs12. -/
import Derived.Shelf.SlSortCmp.NoneTotal
import Derived.Test.YtidophngianjiaaGreatDoorP16
import Derived.Test.YtidophngianjiaaGreatDoorP17
import Derived.Test.YtidophngianjiaaGreatDoorP21
import Derived.Test.YtidophngianjiaaGreatDoorP22
set_option linter.all false
section
namespace Go.Hx
open Go.Proofs Go.RowKit Go.Sort
set_option maxRecDepth 100000
theorem below_grow {w w' : World} (h : Below w.heap.size w w') : ∃ q os, w' = grow (w.drewN q) os := by
 refine ⟨w'.drawn - w.drawn, w'.heap.extract w.heap.size w'.heap.size, ?_⟩
 have hd := h.drawn
 obtain ⟨h1, h2, h3, h4, h5, _⟩ := h
 cases w with
 | mk hp tp dr os out =>
 cases w' with
 | mk hp' tp' dr' os' out' =>
 dsimp only at *
 subst h1 h2 h3
 unfold grow World.drewN
 simp only [World.mk.injEq, true_and, and_true]
 refine ⟨?_, by omega⟩
 apply Array.ext_getElem?
 intro k
 rw [Array.getElem?_append]
 by_cases hk : k < hp.size
 · rw [if_pos hk, h5 k hk]
 · rw [if_neg hk, Array.getElem?_extract]
   by_cases hk2 : k < hp'.size
   · rw [if_pos (by omega)]
     congr 1
     omega
   · rw [if_neg (by omega), Array.getElem?_eq_none (by omega)]
theorem sort_block {α : Type} [Inhabited α] {enc : α → Value} {w : World} {g m : Nat} {d : Array α} {os : Array Obj} {cur : Array Value} {e : TypeId} {fr : Nat × Nat} (h : w.heap[g]? = some (.cells cur e fr)) :
 (sortWorld enc w g 0 m d os).heap[g]? = some (.cells (putCells enc 0 d cur) e fr) := by
 have hlt := (Array.getElem?_eq_some_iff.1 h).1
 unfold sortWorld
 rw [heap_grow_old _ _ (by simpa using hlt)]
 unfold putRow mapBlock
 simp only [heap_ahead, Array.getElem?_modify, if_true, h]
 rfl
theorem sort_other {α : Type} [Inhabited α] {enc : α → Value} {w : World} {g m : Nat} {d : Array α} {os : Array Obj} {b : Nat} (hb : b < w.heap.size) (hne : b ≠ g) : (sortWorld enc w g 0 m d os).heap[b]? = w.heap[b]? := by
 unfold sortWorld
 rw [heap_grow_old _ _ (by simpa using hb)]
 unfold putRow mapBlock
 simp only [heap_ahead, Array.getElem?_modify, if_neg (Ne.symm hne)]
theorem sort_below {α : Type} [Inhabited α] {enc : α → Value} {w : World} {g m : Nat} {d : Array α} {os : Array Obj} : Below 0 w (sortWorld enc w g 0 m d os) :=
 ⟨rfl, rfl, rfl, by unfold sortWorld; simp, fun k hk => absurd hk (Nat.not_lt_zero k), by unfold sortWorld grow; simp⟩
theorem put_take {α : Type} [Inhabited α] {enc : α → Value} {d : Array α} {cur : Array Value} (h : d.size ≤ cur.size) : (putCells enc 0 d cur).toList.take d.size = d.toList.map enc := by
 apply List.ext_getElem?
 intro k
 rw [List.getElem?_take, List.getElem?_map, Array.getElem?_toList, Array.getElem?_toList]
 by_cases hk : k < d.size
 · rw [if_pos hk]
   unfold putCells
   rw [Array.getElem?_mapIdx, Array.getElem?_eq_getElem (by omega), Array.getElem?_eq_getElem hk]
   simp only [Option.map_some, Nat.zero_add, Nat.sub_zero]
   rw [if_pos ⟨Nat.zero_le _, hk⟩, getElem!_pos d k hk]
 · rw [if_neg hk, Array.getElem?_eq_none (by omega)]
   rfl
theorem sort_hfun {P : Program} {ρ : Go.Shelf.Ren} {α : Type} [Inhabited α] (L : SlLaysF.n6 P ρ) (enc : α → Value) (h1 : ∀ x, (enc x).oneCell' = true) (cf : α → α → Int) (hO : SWO (ltOf cf)) (hT : ∀ x y, (ltOf cf) x y = false → (ltOf cf) y x = false → x = y)
 (g : Nat) (caps : Nat → PV) (hg : ∀ args w, (callFunc g args).run P w = .ok (.enter g args) w) (hc : ∀ x y, HPure P g [.one (.raw (enc x)), .one (.raw (enc y))] (prOf [.one (.raw (.int .i64 (cf x y)))])) (id : Nat) (e : TypeId) (l : List α) (hsz : l.length ≤ 8589934592) :
 HFun P (ρ.f 6) [.one (.ref id l.length), .one (.p (.fn g 0 caps))] [(id, .arr true 1 e l.length (lf (fun x _ => .raw (enc x)) l))] (.tup [])
  [(id, .arr true 1 e l.length (lf (fun x _ => .raw (enc x)) (l.mergeSort fun x y => !(ltOf cf) y x)))] [id] := by
 intro w c us hM hus
 match us, hus with
 | [u, v], ⟨hu, hv, _⟩ =>
  obtain ⟨cs, rfl, hcl, _⟩ := hv
  have hcs : cs = [] := List.eq_nil_of_length_eq_zero hcl
  subst hcs
  have hl1 : lk [(id, HObj.arr true 1 e l.length (lf (fun x _ => .raw (enc x)) l))] id = some (.arr true 1 e l.length (lf (fun x _ => .raw (enc x)) l)) := by simp [lk]
  have hu2 := (hu.2.2 _ _ _ _ hl1 rfl).2 rfl
  subst hu2
  have hob := hM.objs id _ hl1
  obtain ⟨h0, hmax, h5⟩ := hob
  have hlen : (l.mergeSort fun x y => !(ltOf cf) y x).length = l.length := List.length_mergeSort _
  have hev : ∀ f' : Nat → Nat → PV, Evo c (lk [(id, HObj.arr true 1 e l.length (lf (fun x _ => .raw (enc x)) l))]) c (lk [(id, HObj.arr true 1 e l.length f')]) id := fun f' =>
   .inr (.inr ⟨_, .arr true 1 e l.length f', 1, e, l.length, l.length, hl1, rfl, by simp [lk], rfl, Nat.le_refl _, fun _ => rfl, fun _ _ _ _ _ _ _ h => by cases h⟩)
  rcases Nat.eq_zero_or_pos l.length with hz | hpos
  ·
   have hl : l = [] := List.eq_nil_of_length_eq_zero hz
   subst hl
   have hform : ∃ ad cap, c.own id = .slice ad 0 cap := by
    rcases h5 with ⟨_, xs, h2, _⟩ | ⟨_, _, ad, cap, hv, _⟩
    · rcases h2.2 with ⟨hv, _⟩ | ⟨g, cap, cur, hv, _⟩
      · exact ⟨none, 0, hv⟩
      · exact ⟨_, cap, hv⟩
    · exact ⟨ad, cap, hv⟩
   obtain ⟨ad, cap, hown⟩ := hform
   have hms : ([] : List α).mergeSort (fun x y => !(ltOf cf) y x) = [] := by simp
   rw [hown, hms]
   refine (AnyF.slices_SortFunc_none { L with } ad cap (.func (.func g) #[] #[]) w).mono ?_
   rintro e' w' ⟨rfl, rfl⟩
   exact ⟨_, c, rfl, ⟨[], rfl, trivial⟩, hM, Below.refl _ _, fun _ _ _ => ⟨rfl, rfl⟩, fun id0 ob b ho hb => .inr ⟨id0, ob, ho, hb⟩, fun id0 hid => by
    rw [List.mem_singleton.1 hid]
    exact Evo.refl _ _ _⟩
  · obtain ⟨h6, xs, h2, h4⟩ : c.blk id = blkS (c.own id) ∧ ∃ xs, w.ownsRow 0 e 1 (c.own id) l.length xs ∧ ∀ i j, i < l.length → j < 1 → ∃ x, xs[i * 1 + j]? = some x ∧ RepP c.imm (lf (fun x _ => .raw (enc x)) l i j) x := by
     rcases h5 with h5 | ⟨h6 | h6, _⟩
     · exact h5
     · cases h6
     · omega
    obtain ⟨hxl, hrow⟩ := h2
    rcases hrow with ⟨_, hz⟩ | ⟨b, cap, cur, hown, hbase, hheap, hnc, hcm, hcs, htake⟩
    · omega
    have hblk : c.blk id b := by rw [h6, hown]; rfl
    have hlt : b < w.heap.size := (Array.getElem?_eq_some_iff.1 hheap).1
    have hcell : ∀ j, (hj : j < l.length) → cur[j]? = some (enc l[j]) := fun j hj => by
     obtain ⟨x, hx, hr⟩ := h4 j 0 hj (by omega)
     rw [Nat.mul_one, Nat.add_zero, ← htake, List.getElem?_take, if_pos (by omega), Array.getElem?_toList] at hx
     rw [hx]
     have hr : x = enc (l.getD j default) ∧ _ := hr
     rw [hr.1, List.getD_eq_getElem?_getD, List.getElem?_eq_getElem hj]
     rfl
    have hH : Holds enc w b 0 l.toArray := fun j hj => by
     have hj : j < l.length := by simpa using hj
     rw [Nat.zero_add]
     refine ⟨?_, by simp [World.frozen?, hheap]⟩
     have : l.toArray[j]! = l[j] := by rw [getElem!_pos l.toArray j (by simpa using hj)]; simp
     rw [this]
     simp [World.cell?, hheap, hcell j hj]
    have hcmp : CmpLays1 P g #[] enc cf b 0 l.toArray.size w := by
     intro m os dk hdk x y
     have hcimm : ∀ b' ob, c.imm b' = some ob → (sortWorld enc w b 0 m dk os).heap[b']? = some ob := fun b' ob hb' => by
      have hne : b' ≠ b := fun he => by
       have := hM.sep id _ b hl1 hblk
       rw [← he, hb'] at this
       cases this
      have hw := hM.imm b' ob hb'
      rw [sort_other (Array.getElem?_eq_some_iff.1 hw).1 hne]
      exact hw
     have h := hc x y (sortWorld enc w b 0 m dk os) c.imm [enc x, enc y] c.tab hcimm ⟨⟨rfl, h1 x⟩, ⟨rfl, h1 y⟩, trivial⟩
     refine h.mono ?_
     rintro e' w' ⟨v, imm', rfl, hr, _, _, hb⟩
     obtain ⟨q, os', hq⟩ := below_grow hb
     exact ⟨by rw [hr.1], q, os', hq⟩
    have hS := Any.slices_SortFunc_total L enc h1 cf hO g #[] b 0 cap l.toArray w hg hcmp hH hlt (by rw [List.size_toArray]; omega) hT
    rw [hown]
    refine Calls.mono hS ?_
    rintro e' w' ⟨rfl, m, os, rfl⟩
    generalize hSd : (l.mergeSort fun x y => !(ltOf cf) y x) = S at *
    refine ⟨_, c, rfl, ⟨[], rfl, trivial⟩, ⟨fun id0 ob ho => ?_, fun id0 id1 ob0 ob1 b' ho0 ho1 _ _ => (lk_one ho0).1.trans (lk_one ho1).1.symm, fun b' ob hb' => ?_, fun id0 ob b' ho hb' => ?_⟩, sort_below,
     fun b' hb' hno => ⟨sort_other hb' (fun he => hno id _ hl1 (by rw [he]; exact hblk)), rfl⟩, fun id0 ob b' ho hb' => .inr ⟨id, _, hl1, by rw [← (lk_one ho).1]; exact hb'⟩, fun id0 hid => by
      rw [List.mem_singleton.1 hid]
      exact hev _⟩
    · obtain ⟨rfl, rfl⟩ := lk_one ho
      refine ⟨h0, hmax, .inl ⟨h6, S.map enc, ⟨by simp [hlen], .inr ⟨b, cap, putCells enc 0 S.toArray cur, hown, hbase, sort_block hheap, hnc, hcm, by simpa [putCells] using hcs, ?_⟩⟩, fun i j hi hj => ?_⟩⟩
      · have := put_take (enc := enc) (d := S.toArray) (cur := cur) (by rw [List.size_toArray, hlen, hcs]; omega)
        rw [List.size_toArray, hlen] at this
        rw [Nat.mul_one]
        exact this
      · obtain rfl : j = 0 := by omega
        have hi' : i < S.length := by rw [hlen]; exact hi
        refine ⟨enc S[i], ?_, ?_⟩
        · rw [Nat.mul_one, Nat.add_zero, List.getElem?_map, List.getElem?_eq_getElem hi']
          rfl
        · show RepP c.imm (.raw (enc (S.getD i default))) _
          rw [List.getD_eq_getElem?_getD, List.getElem?_eq_getElem hi']
          exact ⟨rfl, h1 _⟩
    · have hne : b' ≠ b := fun he => by
       have := hM.sep id _ b hl1 hblk
       rw [← he, hb'] at this
       cases this
      have hw := hM.imm b' ob hb'
      rw [sort_other (Array.getElem?_eq_some_iff.1 hw).1 hne]
      exact hw
    · have := (lk_one ho).1
      subst this
      exact hM.sep id0 _ b' hl1 hb'
 | [], h => exact h.elim
 | [_], ⟨_, h⟩ => exact h.elim
 | _ :: _ :: _ :: _, ⟨_, _, h⟩ => exact h.elim
theorem cmpS_lt {a b : AS} : ltOf cmpS a b = bef a b := cmpS_bef
theorem cmpS_swo : SWO (ltOf cmpS) where
 irrefl x := by rw [cmpS_lt]; exact bef_irr x
 trans x y z h k := by rw [cmpS_lt] at *; exact bef_trans h k
 ntrans x y z h k := by
  rw [cmpS_lt] at *
  rw [Bool.eq_false_iff, ne_eq, bef_iff] at *
  omega
def srt (l : List AS) : List AS := l.mergeSort fun x y => !bef y x
theorem good112 : goodFn Tryz.prog 112 := ⟨Tryz.f112, Tryz.func112, by kernel_rfl, by kernel_rfl⟩
theorem cSort (id : Nat) (caps : Nat → PV) (l : List AS) (hsz : l.length ≤ 8589934592) : HFun Tryz.prog 112 [.one (.ref id l.length), .one (.p (.fn 113 0 caps))] [(id, .arr true 1 38 l.length (lf sC l))] (.tup [])
 [(id, .arr true 1 38 l.length (lf sC (srt l)))] [id] := by
 have h := sort_hfun Tryz.laysSort (fun s : AS => .int .u32 (asI s)) (fun _ => rfl) cmpS cmpS_swo (fun x y h k => by
  rw [cmpS_lt] at h k
  apply Classical.byContradiction
  intro hne
  rcases bef_tri hne with h2 | h2
  · rw [h] at h2; cases h2
  · rw [k] at h2; cases h2) 113 caps (enters_of Tryz.func113 (by kernel_rfl) rfl) (fun x y => cCompare x y) id 38 l hsz
 have e : (fun x y : AS => !(ltOf cmpS) y x) = fun x y => !bef y x := by
  funext x y
  rw [cmpS_lt]
 rw [e] at h
 exact h
theorem mem_srt {l : List AS} {x : AS} : x ∈ srt l ↔ x ∈ l := by unfold srt; exact List.mem_mergeSort
theorem srt_len (l : List AS) : (srt l).length = l.length := List.length_mergeSort _
theorem cmpF_pair : ∀ {l : List AS} {p : Option AS}, l.Pairwise (fun a b => bef b a = false) → (∀ x, p = some x → ∀ y ∈ l, bef y x = false) → (cmpF p l).Pairwise (fun a b => bef a b = true) ∧ ∀ x, p = some x → ∀ y ∈ cmpF p l, bef x y = true
 | [], p, _, _ => ⟨by simp [cmpF], fun x _ y hy => by simp [cmpF] at hy⟩
 | z :: l, p, h, hp => by
  obtain ⟨h1, h2⟩ := List.pairwise_cons.1 h
  simp only [cmpF]
  split
  · rename_i e
    subst e
    exact cmpF_pair h2 fun x hx y hy => hp x hx y (List.mem_cons_of_mem _ hy)
  · rename_i hne
    obtain ⟨q1, q2⟩ := cmpF_pair (p := some z) h2 fun x hx y hy => by
     simp only [Option.some.injEq] at hx
     subst hx
     exact h1 y hy
    refine ⟨List.pairwise_cons.2 ⟨fun y hy => q2 z rfl y hy, q1⟩, fun x hx y hy => ?_⟩
    have hxz : bef x z = true := by
     have h3 := hp x hx z List.mem_cons_self
     rcases bef_tri (a := x) (b := z) (fun e => hne (by rw [hx, e])) with h4 | h4
     · exact h4
     · rw [h3] at h4; cases h4
    rcases List.mem_cons.1 hy with rfl | hy
    · exact hxz
    · exact bef_trans hxz (q2 z rfl y hy)
theorem cmp1_srt (l : List AS) : cmp1 (srt l) = ord l := by
 refine ord_eq (cmpF_pair ?_ fun x hx => by cases hx).1 fun z => by rw [mem_cmp1, mem_srt]
 have h := List.pairwise_mergeSort (le := fun x y : AS => !bef y x) (fun a b c h k => by
  simp only [Bool.not_eq_true'] at *
  rw [Bool.eq_false_iff, ne_eq, bef_iff] at *
  omega) (fun a b => by
  simp only [Bool.or_eq_true, Bool.not_eq_true']
  rw [Bool.eq_false_iff, Bool.eq_false_iff, ne_eq, ne_eq, bef_iff, bef_iff]
  omega) l
 refine h.imp fun {a b} hab => ?_
 simpa using hab
end Go.Hx
end
section
namespace Go.Hx
abbrev vB (b : Bool) : HR := oneP (.raw (.bool b))
abbrev bx (a : PV) : PV := .vp 1 fun j => [a].getD j .any
def worseF (W : AS → AS → Bool) (l : List AS) (x : AS) : Bool := l.any fun b => decide (x ≠ b) && W x b
def keepS (W : AS → AS → Bool) (l : List AS) : List AS := (ord l).filter fun x => !worseF W (ord l) x
def subS (a b : AS) : Bool := decide (sub a b)
def maxl (l : List AS) : List AS := keepS subS l
theorem ord_nodup (l : List AS) : (ord l).Nodup := (ordd_ord l).imp fun {a b} h e => by
 subst e
 rw [bef_irr] at h
 cases h
def okT (l : List AS) (i k : Nat) : Bool := (List.range k).all fun j => decide (j = i) || !subS (l.getD i default) (l.getD j default)
theorem okT_succ (l : List AS) (i k : Nat) : okT l i (k + 1) = (okT l i k && (decide (k = i) || !subS (l.getD i default) (l.getD k default))) := by
 unfold okT
 rw [List.range_succ, List.all_append]
 simp
theorem okT_succ' (l : List AS) (i k : Nat) : okT l i (k + 1) = (okT l i k && (decide ((k : Int) = i) || !subS (l.getD i default) (l.getD k default))) := by
 rw [okT_succ, decide_eq_decide.2 (show (k : Int) = i ↔ k = i by omega)]
theorem okT_all {l : List AS} {i : Nat} (hn : l.Nodup) (hi : i < l.length) : okT l i l.length = !worseF subS l (l.getD i default) := by
 rw [Bool.eq_iff_iff]
 unfold okT worseF
 rw [List.all_eq_true, Bool.not_eq_true', List.any_eq_false]
 constructor
 · intro h b hb hc
   obtain ⟨j, hj, rfl⟩ := List.getElem_of_mem hb
   have := h j (List.mem_range.2 hj)
   simp only [Bool.and_eq_true, decide_eq_true_eq, Bool.or_eq_true, Bool.not_eq_true', List.getD_eq_getElem?_getD, List.getElem?_eq_getElem hj, List.getElem?_eq_getElem hi, Option.getD_some] at this hc
   rcases this with h1 | h1
   · subst h1; exact hc.1 rfl
   · rw [hc.2] at h1; cases h1
 · intro h j hj
   have hj := List.mem_range.1 hj
   have := h l[j] (List.getElem_mem hj)
   simp only [List.getD_eq_getElem?_getD, List.getElem?_eq_getElem hj, List.getElem?_eq_getElem hi, Option.getD_some, Bool.or_eq_true, decide_eq_true_eq, Bool.not_eq_true', Bool.and_eq_true] at this ⊢
   by_cases e : j = i
   · exact .inl e
   · right
     rw [Bool.eq_false_iff]
     intro hs
     refine this ⟨fun he => e ?_, hs⟩
     exact ((List.getElem_inj hn).1 he).symm
def keepT (l : List AS) (i : Nat) : List AS := ((ord l).take i).filter fun x => !worseF subS (ord l) x
theorem keepT_t {l : List AS} {i : Nat} (hi : i < (ord l).length) (h : okT (ord l) i (ord l).length = true) : keepT l (i + 1) = keepT l i ++ [(ord l).getD i default] := by
 rw [okT_all (ord_nodup l) hi] at h
 unfold keepT
 rw [take_snoc hi, List.filter_append]
 simp only [List.filter_cons, h, if_true, List.filter_nil]
theorem keepT_f {l : List AS} {i : Nat} (hi : i < (ord l).length) (h : okT (ord l) i (ord l).length = false) : keepT l (i + 1) = keepT l i := by
 rw [okT_all (ord_nodup l) hi] at h
 unfold keepT
 rw [take_snoc hi, List.filter_append]
 simp only [List.filter_cons, h, Bool.false_eq_true, if_false, List.filter_nil, List.append_nil]
theorem keepT_len (l : List AS) (i : Nat) : (keepT l i).length ≤ i := by
 unfold keepT
 exact Nat.le_trans (List.length_filter_le _ _) (by rw [List.length_take]; omega)
theorem keepT_end (l : List AS) : keepT l (ord l).length = maxl l := by
 unfold keepT maxl keepS
 rw [List.take_length]
end Go.Hx
end
section
namespace Go.Hx
open Go.Proofs
set_option maxRecDepth 100000
theorem good56 : goodFn Tryz.prog 56 := ⟨Tryz.f56, Tryz.func56, by kernel_rfl, by kernel_rfl⟩
theorem cOrder (l : List AS) (hl : l.length ≤ 8589934592) : HPure Tryz.prog 56 [pP (asl l)] (prOf [pP (asl (ord l))]) := by
 refine hpure_of (nt := 10) Tryzok Tryz.func56 rfl rfl l9 ?_; refine hw_seq ?_; refine gy ?_; refine qy ?_; refine rg_nil ?_; refine hw_seq ?_; refine gy ?_; refine qy ?_
 refine rg_fcall rfl rfl rfl rfl rfl rfl good22 (clone75 l.length false (lf sC l) (by omega)) (CoHCL.refl _) trivial rfl rfl ?_; refine qy ?_; refine rg_nil ?_; refine hw_seq ?_; refine gy ?_; refine qy ?_
 refine rg_fcall rfl rfl rfl rfl rfl rfl good112 (cSort 0 _ l hl) (CoHCL.refl _) ⟨u9, trivial⟩ rfl rfl ?_; refine rg_nil ?_; refine hw_seq ?_; refine gy ?_; refine qy ?_
 refine rg_fcall rfl rfl rfl rfl rfl rfl good114 ((cCompact (srt l)).swap 900 0) (⟨congrArg (HV.ref 0) (srt_len l).symm, trivial⟩) ⟨⟨_, rfl, arr_len rfl (srt_len l).symm⟩, trivial⟩ rfl rfl ?_; refine qy ?_; refine rg_nil ?_
 refine hw_ret ?_; refine ⟨.inr rfl, ?_⟩
 exact f9 rfl rfl (⟨CoC.one (CoP.of_eq (by rw [cmp1_srt])), trivial⟩)
theorem good140 : goodFn Tryz.prog 140 := ⟨Tryz.f140, Tryz.func140, by kernel_rfl, by kernel_rfl⟩
theorem cKeep11 (b x : AS) (g k : Nat) (caps : Nat → PV) (W : AS → AS → Bool) (hg : goodFn Tryz.prog g) (hW : ∀ x y, HPure Tryz.prog g (pA x :: pA y :: capsOf caps k 0) (prOf [pB (W x y)])) : HPure Tryz.prog 140 [pA b, pP (bx (asC x)), pP (bx (.fn g k caps))] (prOf [pB (decide (x ≠ b) && W x b)]) := by
 refine hpure_of (nt := 14) Tryzok Tryz.func140 rfl rfl l9 ?_; refine hw_seq ?_; refine gy ?_; refine qy ?_; refine rg_nil ?_; refine hw_seq ?_; refine gy ?_; (iterate 4 refine qy ?_)
 refine rsplit rfl rfl (fun r0 => ?_) (fun r0 => ?_)
 ·
  have h0 := r0
  have h0 := of_decide_eq_false (not_t h0)
  try simp only [ty] at h0
  (iterate 3 refine qy ?_ (hg := (gtt r0))); refine rc rfl rfl rfl rfl rfl rfl hg (hW x b) (CoL.refl _) rfl (gtt r0) ?_; (iterate 2 refine qy ?_); refine rg_nil ?_; refine hw_ret ?_; refine ⟨.inr rfl, ?_⟩
  exact f9 rfl rfl (⟨ccb (by simp_all [asI_inj]), trivial⟩)
 ·
  have h0 := r0
  have h0 := of_decide_eq_true (not_f h0)
  try simp only [ty] at h0
  (iterate 4 refine k9 (gft r0) ?_); refine rq rfl rfl rfl rfl rfl ?_ (hp := r0); refine qy ?_; refine rg_nil ?_; refine hw_ret ?_; refine ⟨.inr rfl, ?_⟩
  exact f9 rfl rfl (⟨ccb (by simp_all [asI_inj]), trivial⟩)
theorem good139 : goodFn Tryz.prog 139 := ⟨Tryz.f139, Tryz.func139, by kernel_rfl, by kernel_rfl⟩
theorem cKeep1 (x : AS) (l : List AS) (g k : Nat) (caps : Nat → PV) (W : AS → AS → Bool) (hg : goodFn Tryz.prog g) (hW : ∀ x y, HPure Tryz.prog g (pA x :: pA y :: capsOf caps k 0) (prOf [pB (W x y)])) : HPure Tryz.prog 139 [pA x, pP (bx (asl l)), pP (bx (.fn g k caps))] (prOf [pB (worseF W l x)]) := by
 refine hpure_of (nt := 8) Tryzok Tryz.func139 rfl rfl l9 ?_; refine hw_seq ?_; refine gy ?_; refine m9 0 ?_; refine qy ?_; refine rg_nil ?_; refine hw_seq ?_; refine hw_freeze_box 3 rfl rfl rfl ?_; refine gy ?_
 (iterate 2 refine qy ?_)
 refine rc rfl rfl rfl rfl rfl rfl good65 (cCoFS l 140 2 (fun i => [bx (asC x), bx (.fn g k caps)].getD i .any) (fun b => decide (x ≠ b) && W x b) good140 (fun b => cKeep11 b x g k caps W hg hW)) (CoL.refl _) rfl rfl ?_
 refine qy ?_; refine rg_nil ?_; refine hw_ret ?_; refine ⟨.inr rfl, ?_⟩
 exact f9 rfl rfl (CoL.refl _)
theorem good92 : goodFn Tryz.prog 92 := ⟨Tryz.f92, Tryz.func92, by kernel_rfl, by kernel_rfl⟩
theorem cKeep (l : List AS) (hl : l.length ≤ 8589934592) (g k : Nat) (caps : Nat → PV) (W : AS → AS → Bool) (hg : goodFn Tryz.prog g) (hW : ∀ x y, HPure Tryz.prog g (pA x :: pA y :: capsOf caps k 0) (prOf [pB (W x y)])) : HPure Tryz.prog 92 [pP (asl l), pP (.fn g k caps)] (prOf [pP (asl (keepS W l))]) := by
 refine hpure_of (nt := 12) Tryzok Tryz.func92 rfl rfl l9 ?_; refine hw_seq ?_; refine gy ?_; refine m9 2 ?_; refine qy ?_; refine rg_nil ?_; refine hw_seq ?_; refine gy ?_; refine qy ?_
 refine rc rfl rfl rfl rfl rfl rfl good56 (cOrder l hl) (CoL.refl _) rfl rfl ?_; refine m9 3 ?_; refine s9 ?_; refine rg_nil ?_; refine hw_seq ?_; refine hw_freeze_box 5 rfl rfl rfl ?_; refine hw_freeze_box 3 rfl rfl rfl ?_
 refine gy ?_; refine qy ?_; refine rg_fcall rfl rfl rfl rfl rfl rfl good22 (clone75 (ord l).length false (lf sC (ord l)) (Nat.le_trans (ord_len l) (by omega))) (CoHCL.refl _) trivial rfl rfl ?_; refine qy ?_
 refine rg_fcall rfl rfl rfl rfl rfl rfl good122 ((cDelF (ord l) 139 2 (fun i => [bx (asl (ord l)), bx (.fn g k caps)].getD i .any) (worseF W (ord l)) good139 (fun x => cKeep1 x (ord l) g k caps W hg hW)).swap 900 0) (CoHCL.refl _) ⟨u9, trivial⟩ rfl rfl ?_
 refine qy ?_; refine rg_nil ?_; refine hw_ret ?_; refine ⟨.inr rfl, ?_⟩
 exact f9 rfl rfl (CoL.refl _)
theorem good93 : goodFn Tryz.prog 93 := ⟨Tryz.f93, Tryz.func93, by kernel_rfl, by kernel_rfl⟩
theorem cMax1 (a b : AS) : HPure Tryz.prog 93 [pA a, pA b] (prOf [pB (subS a b)]) := by
 refine hpure_of (nt := 9) Tryzok Tryz.func93 rfl rfl l9 ?_; refine hw_seq ?_; refine gy ?_; refine qy ?_; refine rg_nil ?_; refine hw_seq ?_; refine gy ?_; (iterate 5 refine qy ?_); refine rg_nil ?_; refine hw_ret ?_
 refine ⟨.inr rfl, ?_⟩
 exact f9 rfl rfl (⟨ccb (decide_eq_decide.2 sub_iff_not), trivial⟩)
theorem good46 : goodFn Tryz.prog 46 := ⟨Tryz.f46, Tryz.func46, by kernel_rfl, by kernel_rfl⟩
theorem cMaximal (l : List AS) (hl : l.length ≤ 8589934592) : HPure Tryz.prog 46 [pP (asl l)] (prOf [pP (asl (maxl l))]) := by
 refine hpure_of (nt := 5) Tryzok Tryz.func46 rfl rfl l9 ?_; refine hw_seq ?_; refine gy ?_; refine qy ?_; refine rg_nil ?_; refine hw_seq ?_; refine gy ?_; refine qy ?_
 refine rc rfl rfl rfl rfl rfl rfl good92 (cKeep l hl 93 0 _ subS good93 (fun a b => cMax1 a b)) (CoL.refl _) rfl rfl ?_; refine qy ?_; refine rg_nil ?_; refine hw_ret ?_; refine ⟨.inr rfl, ?_⟩
 exact f9 rfl rfl (CoL.refl _)
theorem good47 : goodFn Tryz.prog 47 := ⟨Tryz.f47, Tryz.func47, by kernel_rfl, by kernel_rfl⟩
theorem cRMaximal (l : List AS) (hl : l.length ≤ 8589934592) : HPure Tryz.prog 47 [pP (asl l)] (prOf [pP (asl (maxl l))]) := by
 refine hpure_of (nt := 49) Tryzok Tryz.func47 rfl rfl l9 ?_; refine hw_seq ?_; refine gy ?_; refine qy ?_; refine rg_nil ?_; refine hw_seq ?_; refine gy ?_; refine qy ?_; refine rg_nil ?_; refine hw_seq ?_; refine gy ?_
 refine qy ?_; refine rc rfl rfl rfl rfl rfl rfl good94 (cROrder l hl) (CoL.refl _) rfl rfl ?_; refine qy ?_; refine rg_nil ?_; (iterate 2 refine hw_seq ?_); refine gy ?_; refine qy ?_; refine rg_nil ?_; refine hw_block ?_
 have hol := ord_len l
 refine hw_adopt 3 900 true 1 38 (lf sC []) (by decide) rfl (CoP.sl rfl (.inr rfl) (fun h => h) (fun i j hi _ => absurd hi (Nat.not_lt_zero i))) (.inr rfl) rfl ?_
 refine hw_loopK (ι := Nat) ⟨[(4, some _)], []⟩ ⟨⟨c9, trivial⟩, trivial⟩ (fun i => ⟨[(3, some (.v (.one (.ref 900 (keepT l i).length)))), (5, some (vI i))], [(900, some (.arr true 1 38 (keepT l i).length (lf sC (keepT l i))))]⟩) (fun i => i ≤ (ord l).length) (fun i => (ord l).length - i) (0) (Nat.zero_le _) ⟨⟨zy, zy, trivial⟩, ⟨u9, trivial⟩⟩ ?_
 rintro i hi
 have hlen := keepT_len l i
 (iterate 2 refine hw_seq ?_); refine gy ?_; (iterate 4 refine qy ?_); refine rg_nil ?_; refine hw_cond _ rfl (fun r0 => ?_) (fun r0 => ?_)
 ·
  have h0 := of_decide_eq_true r0
  try simp only [ty] at h0
  refine hw_skip ?_; refine hw_seq ?_; refine hw_block ?_; refine hw_seq ?_; refine gy ?_; refine qy ?_; refine rg_nil ?_; (iterate 2 refine hw_seq ?_); refine gy ?_; refine qy ?_; refine rg_nil ?_; refine hw_block ?_
  refine hw_loopK (ι := Nat) ⟨[(3, some _), (4, some _), (5, some _)], [(900, some _)]⟩ ⟨⟨c9, c9, c9, trivial⟩, ⟨u9, trivial⟩⟩ (fun k => ⟨[(6, some (vB (okT (ord l) i k))), (7, some (vI k))], []⟩) (fun k => k ≤ (ord l).length) (fun k => (ord l).length - k) (0) (Nat.zero_le _) ⟨⟨⟨_, rfl, (cob rfl)⟩, zy, trivial⟩, trivial⟩ ?_
  rintro k hk
  (iterate 2 refine hw_seq ?_); refine gy ?_; (iterate 4 refine qy ?_); refine rg_nil ?_; refine hw_cond _ rfl (fun r1 => ?_) (fun r1 => ?_)
  ·
   have h1 := of_decide_eq_true r1
   try simp only [ty] at h1
   refine hw_skip ?_; refine hw_seq ?_; refine hw_block ?_; refine hw_draw (E := TryzE) Tryzok Tryzmixed [0, 1, 2, 3, 4, 5, 6, 7, 8, 9, 10, 11, 12, 13, 14, 15, 16, 17, 18] ?_; (iterate 2 refine qy ?_)
   refine rsplit rfl rfl (fun r2 => ?_) (fun r2 => ?_)
   ·
    have h2 := r2
    (iterate 4 refine qy ?_ (hg := (gtt r2))); refine rsplit rfl rfl (fun r3 => ?_) (fun r3 => ?_)
    ·
     have h3 := of_decide_eq_true r3
     try simp only [ty] at h3
     (iterate 10 refine k9 (gtf r3) ?_); refine rq rfl rfl rfl rfl (gtt r2) ?_ (hp := r3); (iterate 2 refine qy ?_); refine rg_nil ?_; refine ⟨by kernel_rfl, ?_⟩; refine gy ?_; (iterate 3 refine qy ?_); refine rg_nil ?_
     refine ⟨k + 1, ?_, ?_, ?_⟩
     · show k + 1 ≤ _; omega
     · first | omega | (dsimp only; omega)
     · exact ⟨⟨⟨_, rfl, (cob (by rw [okT_succ']; simp_all only [subS]; simp))⟩, zy, c9, c9, c9, trivial⟩, ⟨u9, trivial⟩⟩
    ·
     have h3 := of_decide_eq_false r3
     try simp only [ty] at h3
     (iterate 8 refine qy ?_ (hg := (gff r3))); refine rc rfl rfl rfl rfl rfl rfl good81 (cRSub _ _) (CoL.refl _) rfl (gff r3) ?_; refine qy ?_ (hg := (gff r3)); refine qy ?_ (hg := (gtt r2)); (iterate 2 refine qy ?_)
     refine rg_nil ?_; refine ⟨by kernel_rfl, ?_⟩; refine gy ?_; (iterate 3 refine qy ?_); refine rg_nil ?_; refine ⟨k + 1, ?_, ?_, ?_⟩
     · show k + 1 ≤ _; omega
     · first | omega | (dsimp only; omega)
     · exact ⟨⟨⟨_, rfl, (cob (by rw [okT_succ']; simp_all only [subS]; simp))⟩, zy, c9, c9, c9, trivial⟩, ⟨u9, trivial⟩⟩
   ·
    have h2 := r2
    (iterate 4 refine k9 (gft r2) ?_); (iterate 10 refine k9 rfl ?_); refine k9 (gft r2) ?_; refine rq rfl rfl rfl rfl rfl ?_ (hp := r2); refine qy ?_; refine rg_nil ?_; refine ⟨by kernel_rfl, ?_⟩; refine gy ?_
    (iterate 3 refine qy ?_); refine rg_nil ?_; refine ⟨k + 1, ?_, ?_, ?_⟩
    · show k + 1 ≤ _; omega
    · first | omega | (dsimp only; omega)
    · exact ⟨⟨⟨_, rfl, (cob (by rw [okT_succ']; simp_all only [subS]; simp))⟩, zy, c9, c9, c9, trivial⟩, ⟨u9, trivial⟩⟩
  ·
   have h1 := of_decide_eq_false r1
   try simp only [ty] at h1
   obtain rfl : k = (ord l).length := by omega
   refine hw_exit ?_; refine hw_seq ?_; refine gy ?_; refine qy ?_; refine rg_nil ?_; refine hw_cond _ rfl (fun r4 => ?_) (fun r4 => ?_)
   ·
    have h4 := r4
    refine gy ?_; (iterate 5 refine qy ?_); refine m9 0 ?_; refine ra 1 true rfl rfl rfl rfl rfl rfl ?_; refine qy ?_; refine rg_nil ?_; refine gy ?_; (iterate 3 refine qy ?_); refine rg_nil ?_
    first | (refine ⟨i + 1, ?_, ?_, ?_⟩
             · show i + 1 ≤ _; omega
             · first | omega | (dsimp only; omega)
             · exact ⟨⟨⟨_, rfl, (ref_app (keepT_t (by omega) (by assumption)))⟩, zy, c9, trivial⟩, ⟨⟨_, rfl, (arr_app1 (keepT_t (by omega) (by assumption)) (CoP.refl _))⟩, trivial⟩⟩)
          | (refine ⟨i + 1, ?_, ?_, ?_⟩
             · show i + 1 ≤ _; omega
             · first | omega | (dsimp only; omega)
             · exact ⟨⟨⟨_, rfl, (ref_same (keepT_f (by omega) (by assumption)))⟩, zy, c9, trivial⟩, ⟨⟨_, rfl, (arr_same (keepT_f (by omega) (by assumption)))⟩, trivial⟩⟩)
   ·
    have h4 := r4
    refine hw_skip ?_; refine gy ?_; (iterate 3 refine qy ?_); refine rg_nil ?_
    first | (refine ⟨i + 1, ?_, ?_, ?_⟩
             · show i + 1 ≤ _; omega
             · first | omega | (dsimp only; omega)
             · exact ⟨⟨⟨_, rfl, (ref_app (keepT_t (by omega) (by assumption)))⟩, zy, c9, trivial⟩, ⟨⟨_, rfl, (arr_app1 (keepT_t (by omega) (by assumption)) (CoP.refl _))⟩, trivial⟩⟩)
          | (refine ⟨i + 1, ?_, ?_, ?_⟩
             · show i + 1 ≤ _; omega
             · first | omega | (dsimp only; omega)
             · exact ⟨⟨⟨_, rfl, (ref_same (keepT_f (by omega) (by assumption)))⟩, zy, c9, trivial⟩, ⟨⟨_, rfl, (arr_same (keepT_f (by omega) (by assumption)))⟩, trivial⟩⟩)
 ·
  have h0 := of_decide_eq_false r0
  try simp only [ty] at h0
  obtain rfl : i = (ord l).length := by omega
  refine hw_exit ?_; refine hw_seq ?_; refine gy ?_; (iterate 2 refine qy ?_); refine rg_nil ?_; refine hw_freeze 2 rfl rfl rfl ?_; refine hw_ret ?_; refine ⟨.inr rfl, ?_⟩
  exact f9 rfl rfl (⟨CoC.one (CoP.of_eq (by rw [← keepT_end]; rfl)), trivial⟩)
end Go.Hx
end
section
namespace Go.Hx
def onceL (l : List Fd) : List Fd := l.foldl (fun o x => if x ∈ o then o else o ++ [x]) []
theorem onceL_step {l : List Fd} {i : Nat} (hi : i < l.length) : onceL (l.take (i + 1)) = if l.getD i default ∈ onceL (l.take i) then onceL (l.take i) else onceL (l.take i) ++ [l.getD i default] := by
 unfold onceL
 rw [take_snoc hi, List.foldl_append]
 rfl
theorem anyF_mem {l : List Fd} {s : Fd} : (l.any fun x => decide (x = s)) = decide (s ∈ l) := by
 rw [Bool.eq_iff_iff, List.any_eq_true, decide_eq_true_iff]
 constructor
 · rintro ⟨x, hx, h⟩
   exact of_decide_eq_true h ▸ hx
 · intro h
   exact ⟨s, h, decide_eq_true rfl⟩
theorem onceL_t {l : List Fd} {i : Nat} (hi : i < l.length) (h : ((onceL (l.take i)).any fun x => decide (x = l.getD i default)) = false) : onceL (l.take (i + 1)) = onceL (l.take i) ++ [l.getD i default] := by
 rw [anyF_mem] at h
 rw [onceL_step hi, if_neg (of_decide_eq_false h)]
theorem onceL_f {l : List Fd} {i : Nat} (hi : i < l.length) (h : ((onceL (l.take i)).any fun x => decide (x = l.getD i default)) = true) : onceL (l.take (i + 1)) = onceL (l.take i) := by
 rw [anyF_mem] at h
 rw [onceL_step hi, if_pos (of_decide_eq_true h)]
theorem onceL_aux : ∀ (l o : List Fd), (l.foldl (fun o x => if x ∈ o then o else o ++ [x]) o).length ≤ o.length + l.length ∧ ∀ z, z ∈ l.foldl (fun o x => if x ∈ o then o else o ++ [x]) o ↔ z ∈ o ∨ z ∈ l
 | [], o => ⟨by simp, fun z => by simp⟩
 | x :: l, o => by
  obtain ⟨h1, h2⟩ := onceL_aux l (if x ∈ o then o else o ++ [x])
  simp only [List.foldl_cons]
  refine ⟨?_, fun z => ?_⟩
  · refine Nat.le_trans h1 ?_
    split <;> simp <;> omega
  · rw [h2 z, List.mem_cons]
    split
    · rename_i hx
      constructor
      · rintro (h | h) <;> simp [h]
      · rintro (h | rfl | h)
        · exact .inl h
        · exact .inl hx
        · exact .inr h
    · rw [List.mem_append, List.mem_singleton]
      constructor
      · rintro ((h | h) | h) <;> simp [h]
      · rintro (h | h | h) <;> simp [h]
theorem onceL_len (l : List Fd) : (onceL l).length ≤ l.length := by
 have := (onceL_aux l []).1
 simpa [onceL] using this
def seenT (l : List Fd) (i k : Nat) : Bool := (l.take k).any fun x => decide (x = l.getD i default)
def splitA (f : Fd) : List Fd := (membs (f.rhs &&& ~~~f.lhs)).map fun a => (⟨f.lhs, (1 : AS) <<< a⟩ : Fd)
def splitL (l : List Fd) : List Fd := (l.map splitA).flatten
def splitT (l : List Fd) (i k : Nat) : List Fd := splitL (l.take i) ++ (splitA (l.getD i default)).take k
theorem splitA_len (f : Fd) : (splitA f).length = (membs (f.rhs &&& ~~~f.lhs)).length := by unfold splitA; rw [List.length_map]
theorem membs_le (s : AS) : (membs s).length ≤ 32 := by rw [← bsz_membs]; exact bsz_le s
theorem splitT_zero (l : List Fd) (i : Nat) : splitT l i 0 = splitL (l.take i) := by unfold splitT; rw [List.take_zero, List.append_nil]
theorem splitT_step {l : List Fd} {i k : Nat} {m : List Nat} (hm : m = membs ((l.getD i default).rhs &&& ~~~(l.getD i default).lhs)) (hk : k < m.length) : splitT l i (k + 1) = splitT l i k ++ [⟨(l.getD i default).lhs, (1 : AS) <<< m.getD k default⟩] := by
 subst hm
 unfold splitT
 generalize l.getD i default = x at *
 rw [List.take_add_one, List.append_assoc]
 congr 1
 congr 1
 unfold splitA
 rw [List.getElem?_map, List.getElem?_eq_getElem hk, List.getD_eq_getElem?_getD, List.getElem?_eq_getElem hk]
 rfl
theorem splitT_end {l : List Fd} {i : Nat} (hi : i < l.length) {k : Nat} (hk : k = (membs ((l.getD i default).rhs &&& ~~~(l.getD i default).lhs)).length) : splitT l i k = splitL (l.take (i + 1)) := by
 subst hk
 unfold splitT splitL
 rw [← splitA_len, List.take_length, take_snoc hi, List.map_append, List.flatten_append]
 simp
theorem splitL_len (l : List Fd) : (splitL l).length ≤ 32 * l.length := by
 induction l with
 | nil => simp [splitL]
 | cons x l ih =>
  have h : splitL (x :: l) = splitA x ++ splitL l := by simp [splitL]
  have h2 := splitA_len x
  have h3 := membs_le (x.rhs &&& ~~~x.lhs)
  rw [h, List.length_append, List.length_cons]
  omega
theorem splitT_len {l : List Fd} {i k : Nat} (hi : i ≤ l.length) : (splitT l i k).length ≤ 32 * l.length + 32 := by
 have h1 := splitL_len (l.take i)
 have h2 := membs_le ((l.getD i default).rhs &&& ~~~(l.getD i default).lhs)
 rw [List.length_take] at h1
 unfold splitT
 rw [List.length_append, List.length_take, splitA_len]
 omega
def exB (l : List Fd) (x : Fd) (a : Nat) : Bool := imp l ⟨x.lhs &&& ~~~((1 : AS) <<< a), x.rhs⟩
theorem and_shl (s : AS) (a : Nat) : bitV .andNot .u32 (asI s) (IntKind.wrap .u32 (1 * 2 ^ (min a 32))) = asI (s &&& ~~~((1 : AS) <<< a)) := by
 rw [show IntKind.wrap .u32 (1 * 2 ^ (min a 32)) = asI ((1 : AS) <<< a) from bShl 1 a, bNot]
theorem shl_one (a : Nat) : IntKind.wrap .u32 (1 * 2 ^ (min a 32)) = asI ((1 : AS) <<< a) := bShl 1 a
def othersL (l : List Fd) (i : Nat) : List Fd := l.take i ++ l.drop (i + 1)
def redB (l : List Fd) (i : Nat) : Bool := imp (othersL l i) (l.getD i default)
theorem othersL_len {l : List Fd} {i : Nat} (hi : i < l.length) : (othersL l i).length = l.length - 1 := by unfold othersL; rw [List.length_append, List.length_take, List.length_drop]; omega
end Go.Hx
end
section
namespace Go.Hx
open Go.Proofs Go.Lib Go.RowKit
set_option maxHeartbeats 4000000 in
set_option maxRecDepth 100000 in
theorem grow139_some (k : Nat) (hk : 0 < k) (hbig : k * 8 ≤ 140737488355328) (w : World) (ad : Option Addr) :
 Calls Tryz.prog 236 #[.slice ad 0 0, .int .i64 k] w fun e w' => ∃ G ROW, e = .returned (.slice (some ⟨w.heap.size, 0, none⟩) 0 G) ∧ G ≤ maxLen ∧ w' = w.drew.alloc (.cells ROW 40) ∧ ROW.size = G * 2 := by
 obtain ⟨i0, z, hi0, hz0, hzs, hzb, hzc⟩ : ∃ i0 z, Tryz.prog.info? 40 = some i0 ∧ i0.zero = some z ∧ i0.size = 2 ∧ i0.bytes = 8 ∧ z.cells.size = 2 := by
  have h : (Tryz.prog.info? 40).map (fun i => (i.zero.map (fun z => z.cells.size), i.size, i.bytes)) = some (some 2, 2, 8) := by kernel_rfl
  cases hq : Tryz.prog.info? 40 with
  | none => rw [hq] at h; cases h
  | some i0 =>
   rw [hq] at h
   cases hz : i0.zero with
   | none => simp [hz] at h
   | some z => simp [hz] at h; exact ⟨i0, z, rfl, hz, h.2.1, h.2.2, h.1⟩
 have hc : 0 + k ≤ maxLen := by unfold maxLen; omega
 have hold : (Builtin.firstCells i0.size 0 (.slice ad 0 0)).run Tryz.prog w.drew = .ok (([] : List Value)).toArray w.drew := by
  cases ad with
  | none => exact run_firstCells_none w.drew _ _ _ _
  | some a => exact run_firstCells_some w.drew _ 0 a 0 0 [] (by simp) (fun j v hj => by simp at hj)
 obtain ⟨G, hG⟩ : ∃ G, G = grownCap w (0 + k) 0 40 := ⟨_, rfl⟩
 have hGn : 0 + k ≤ G := by rw [hG]; exact grownCap_ge w _ _ _
 have hGm : G ≤ maxLen := by rw [hG]; exact grownCap_le_maxLen w (0 + k) 0 40 hc
 obtain ⟨ROW, hROW⟩ : ∃ ROW : Array Value, ROW = ([] : List Value).toArray ++ Builtin.zeroCells z.cells k ++ Builtin.zeroCells z.cells (G - (0 + k)) := ⟨_, rfl⟩
 have hrz : (Builtin.append_ #[27, 3] 27 #[.slice ad 0 0, .int .i64 (k : Int)]).run Tryz.prog w = .ok (.slice (some ⟨w.heap.size, 0, none⟩) k G) (w.drew.alloc (.cells ROW 40)) := by
  have h := Lib.run_append_grow_zeros w 27 3 27 40 i0 z .i64 .i64 Tryz.underlying27 Tryz.underlying3 hi0 hz0 ad 0 0 [] hold k hk (by omega) (by omega) (by unfold maxLen at hc; omega) (by rw [hzb]; omega) (by rw [hzb, Nat.zero_add]; exact growslice_fits (by omega) hbig)
  rw [← hG, ← hROW] at h
  rw [h]
  simp
 have hRs : ROW.size = G * 2 := by
  rw [hROW]
  simp only [Array.size_append, List.size_toArray, List.length_nil, size_zeroCells, hzc]
  omega
 have mixed := Tryzmixed
 have hcM : G ≤ 9223372036854775807 := by unfold maxLen at hGm; omega
 have hk0 : ¬ ((k : Int) < 0) := by omega
 have hk1 : (0 : Int) < (k : Int) := by omega
 have hw1 : IntKind.i64.wrap (k : Int) = (k : Int) := by rw [IntKind.wrap_i64]; omega
 clear hG hROW hold
 rcases ad with _ | ⟨ab, ao, asp⟩
 all_goals go_enter Tryz.func236, Tryz.ntmps236
 all_goals go_wp2_with (at_builtin; refine Lib.wpList_append_run _ rfl _ _ _ _ rfl _ _ rfl rfl _ _ hrz ?_)
 all_goals go_ret
 all_goals first | exact ⟨G, ROW, rfl, hGm, rfl, hRs⟩ | exact ⟨G, rfl, hGm, ROW, rfl, hRs⟩
theorem grow139_none (w : World) (ad : Option Addr) : Calls Tryz.prog 236 #[.slice ad 0 0, .int .i64 0] w fun e w' => e = .returned (.slice ad 0 0) ∧ w' = w := by
 have mixed := Tryzmixed
 go_enter Tryz.func236, Tryz.ntmps236
 go_wp2
 go_ret
 exact ⟨rfl, rfl⟩
theorem c139h (k a : Nat) (hk : k ≤ 68719476736) (F : Nat → Nat → PV) :
 HFun Tryz.prog 236 [.one (.p (rawP (.slice none 0 0))), .one (.p (.raw (.int .i64 k)))] [] (.v (.one (.ref a 0))) [(a, .arr true 2 40 0 F)] [] := by
 refine hfun_new (by omega) fun w ad => ?_
 rcases Nat.eq_zero_or_pos k with rfl | hk0
 · refine (grow139_none w ad).mono ?_
   rintro e w' ⟨rfl, rfl⟩
   exact ⟨_, rfl, Below.refl _ _, .inl rfl⟩
 · refine (grow139_some k hk0 (by omega) w ad).mono ?_
   rintro e w' ⟨G, ROW, rfl, hG, rfl, hR⟩
   refine ⟨_, rfl, ⟨rfl, rfl, rfl, ?_, fun q hq => ha_old w.drew _ hq, Nat.le_succ _⟩, .inr ⟨⟨by simp, .inr ⟨_, G, ROW, rfl, Nat.zero_le _, heap_alloc_new w.drew _, Nat.zero_le _, hG, hR, by simp⟩⟩, fun g hg => ?_⟩⟩
   · show _ ≤ (w.heap.push _).size
     rw [Array.size_push]; omega
   · have : w.heap.size = g := by simpa [blkOf] using hg
     omega
end Go.Hx
end
section
namespace Go.Hx
open Go.Proofs
set_option maxRecDepth 100000
theorem good205 : goodFn Tryz.prog 205 := ⟨Tryz.f205, Tryz.func205, by kernel_rfl, by kernel_rfl⟩
theorem cOnceH (l : List Fd) (hl : l.length ≤ 16777216) : HFun Tryz.prog 205 [.one (.p (fdl l))] [] (.v (.one (.ref 900 (onceL l).length))) [(900, .arr true 2 40 (onceL l).length (lf Fd.c (onceL l)))] [] := by
 refine hfun_of (nt := 22) Tryzok Tryz.func205 rfl rfl l9 rfl ?_; refine hw_seq ?_; refine gy ?_; refine qy ?_; refine rg_nil ?_; refine hw_seq ?_; refine gy ?_; refine qy ?_; refine rg_nil ?_; (iterate 2 refine hw_seq ?_)
 refine hw_bt 0 rfl fun hn => ?_
 refine gy ?_; (iterate 3 refine qy ?_); refine rg_nil ?_; refine hw_block ?_
 refine hw_adopt 3 900 true 2 40 (lf Fd.c []) (by decide) rfl (CoP.sl rfl (.inr rfl) (fun h => h) (fun i j hi _ => absurd hi (Nat.not_lt_zero i))) (.inr rfl) rfl ?_
 refine hw_loopK (ι := Nat) ⟨[(6, some _), (7, some _)], []⟩ ⟨⟨c9, c9, trivial⟩, trivial⟩ (fun i => ⟨[(3, some (.v (.one (.ref 900 (onceL (l.take i)).length)))), (8, some (vI i))], [(900, some (.arr true 2 40 (onceL (l.take i)).length (lf Fd.c (onceL (l.take i)))))]⟩) (fun i => i ≤ l.length) (fun i => l.length - i) (0) (Nat.zero_le _) ⟨⟨zy, zy, trivial⟩, ⟨u9, trivial⟩⟩ ?_
 rintro i hi
 have hlen := onceL_len (l.take i)
 rw [List.length_take] at hlen
 refine hw_seq ?_; refine gy ?_; refine qy ?_; refine rg_nil ?_; refine hw_seq ?_; refine hw_cond _ rfl (fun r0 => ?_) (fun r0 => ?_)
 ·
  have h0 := of_decide_eq_true r0
  try simp only [ty] at h0
  refine hw_skip ?_; refine hw_seq ?_; refine hw_block ?_; refine hw_seq ?_; refine gy ?_; (iterate 2 refine qy ?_); refine m9 0 ?_; refine s9 ?_; refine rg_nil ?_; refine hw_seq ?_; refine gy ?_; (iterate 2 refine qy ?_)
  refine rc rfl rfl rfl rfl rfl rfl good227 (cCoF (onceL (l.take i)) (l.getD i default)) (CoL.refl _) rfl rfl ?_; refine qy ?_; refine rg_nil ?_; refine hw_cond _ rfl (fun r1 => ?_) (fun r1 => ?_)
  ·
   have h1 := r1
   have h1 := not_t h1
   have hc := not_t r1
   refine gy ?_; (iterate 2 refine qy ?_); refine m9 1 ?_; refine ra 2 true rfl rfl rfl rfl rfl rfl ?_; refine qy ?_; refine rg_nil ?_; refine gy ?_; (iterate 2 refine qy ?_); refine rg_nil ?_
   first | (refine ⟨i + 1, ?_, ?_, ?_⟩
            · show i + 1 ≤ _; omega
            · first | omega | (dsimp only; omega)
            · exact ⟨⟨⟨_, rfl, (ref_app (onceL_t (by omega) hc))⟩, zy, c9, c9, trivial⟩, ⟨⟨_, rfl, (arr_app2 (onceL_t (by omega) hc) (CoP.refl _) (CoP.refl _))⟩, trivial⟩⟩)
         | (refine ⟨i + 1, ?_, ?_, ?_⟩
            · show i + 1 ≤ _; omega
            · first | omega | (dsimp only; omega)
            · exact ⟨⟨⟨_, rfl, (ref_same (onceL_f (by omega) hc))⟩, zy, c9, c9, trivial⟩, ⟨⟨_, rfl, (arr_same (onceL_f (by omega) hc))⟩, trivial⟩⟩)
  ·
   have h1 := r1
   have h1 := not_f h1
   have hc := not_f r1
   refine hw_skip ?_; refine gy ?_; (iterate 2 refine qy ?_); refine rg_nil ?_
   first | (refine ⟨i + 1, ?_, ?_, ?_⟩
            · show i + 1 ≤ _; omega
            · first | omega | (dsimp only; omega)
            · exact ⟨⟨⟨_, rfl, (ref_app (onceL_t (by omega) hc))⟩, zy, c9, c9, trivial⟩, ⟨⟨_, rfl, (arr_app2 (onceL_t (by omega) hc) (CoP.refl _) (CoP.refl _))⟩, trivial⟩⟩)
         | (refine ⟨i + 1, ?_, ?_, ?_⟩
            · show i + 1 ≤ _; omega
            · first | omega | (dsimp only; omega)
            · exact ⟨⟨⟨_, rfl, (ref_same (onceL_f (by omega) hc))⟩, zy, c9, c9, trivial⟩, ⟨⟨_, rfl, (arr_same (onceL_f (by omega) hc))⟩, trivial⟩⟩)
 ·
  have h0 := of_decide_eq_false r0
  try simp only [ty] at h0
  obtain rfl : i = l.length := by omega
  refine hw_exit ?_; refine hw_seq ?_; refine gy ?_; (iterate 2 refine qy ?_); refine rg_nil ?_; refine hw_ret ?_; refine ⟨.inr rfl, ?_⟩
  exact ⟨_, _, rfl, (by (repeat' apply And.intro) <;> first | trivial | exact Nat.le_of_ble_eq_true rfl), CoR.of_eq (by rw [List.take_length]; rfl), ⟨⟨_, rfl, arr_len (by rw [List.take_length]) (by rw [List.take_length])⟩, trivial⟩⟩
theorem cOnce (l : List Fd) (hl : l.length ≤ 16777216) : HPure Tryz.prog 205 [pP (fdl l)] (prOf [pP (fdl (onceL l))]) :=
 HFun.pure (args := [pP (fdl l)]) (l := [.one (.ref 900 (onceL l).length)]) (cOnceH l hl) rfl ⟨rfl, trivial⟩
end Go.Hx
end
section
namespace Go.Hx
theorem co_takeI {α : Type} [Inhabited α] {s n k' : Nat} {k : Int} {cl : Bool} {c : α → Nat → PV} {l : List α} (h : k.toNat = k') (hk : k' ≤ l.length) :
 CoP (.sl (less (upTo n (some k)) none) s cl (from_ (lf c l) none)) (psl s c (l.take k')) := by
 subst h; exact co_take hk
theorem co_dropI {α : Type} [Inhabited α] {s n k' : Nat} {k : Int} {cl : Bool} {c : α → Nat → PV} {l : List α} (hn : n = l.length) (h : k.toNat = k') : CoP (.sl (less n (some k)) s cl (from_ (lf c l) (some k))) (psl s c (l.drop k')) := by
 subst h hn; exact co_drop
theorem oth_flat {l : List Fd} {i : Nat} : [l.take i, l.drop (i + 1)].flatten = othersL l i := by simp [othersL]
theorem oth_len {l : List Fd} {i : Nat} (hi : i < l.length) (hl : l.length ≤ 16777216) : [l.take i, l.drop (i + 1)].flatten.length ≤ 16777216 := by
 rw [oth_flat, othersL_len hi]
 omega
theorem ex_co {x : Fd} {b : Int} {s : AS} (h : b = asI s) : CoC (.agg [.raw (.int .u32 b), .raw (.int .u32 (asI x.rhs))]) (Fd.pc ⟨s, x.rhs⟩) := by
 subst h
 exact CoC.refl _
end Go.Hx
end
