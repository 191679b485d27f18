/- A part of the proof: SrW Cs10 V8 Cs11 V10 Cs13 Cs14 Cs15. -/
import Derived.Shelf.SlSortCmp.NoneTotal
import Derived.Test.YtidophngianjiaaGreatDoorBx13
import Derived.Test.YtidophngianjiaaGreatDoorBx16
import Derived.Test.YtidophngianjiaaGreatDoorBx17
set_option linter.all false
section
namespace Go.Hx
open Go.Proofs Go.RowKit Go.Sort
set_option maxRecDepth 100000
theorem ai7 {w w':World} (h:Below w.heap.size w w'):∃ q os,w' = grow (w.drewN q) os:=by
 refine ⟨w'.drawn - w.drawn,w'.heap.extract w.heap.size w'.heap.size, ?_⟩
 have hd:=h.drawn
 obtain ⟨h1,h2,h3,h4,h5,_⟩:=h
 cases w with
 | mk hp tp dr os out =>
 cases w' with
 | mk hp' tp' dr' os' out' =>
 dsimp only at *
 subst h1 h2 h3
 unfold grow World.drewN
 simp only [World.mk.injEq,true_and,and_true]
 refine ⟨?_,by omega⟩
 apply Array.ext_getElem?
 intro k
 rw [Array.getElem?_append]
 by_cases hk:k < hp.size
 · rw [if_pos hk,h5 k hk]
 · rw [if_neg hk,Array.getElem?_extract]
   by_cases hk2:k < hp'.size
   · rw [if_pos (by omega)]
     congr 1
     omega
   · rw [if_neg (by omega),Array.getElem?_eq_none (by omega)]
theorem ai9 {α:Type} [Inhabited α] {enc:α → Value} {w:World} {g m:Nat} {d:Array α} {os:Array Obj} {cur:Array Value} {e:TypeId} {fr:Nat × Nat} (h:w.heap[g]? = some (.cells cur e fr)) :
 (sortWorld enc w g 0 m d os).heap[g]? = some (.cells (putCells enc 0 d cur) e fr):=by
 have hlt:=(Array.getElem?_eq_some_iff.1 h).1
 unfold sortWorld
 rw [heap_grow_old _ _ (by simpa using hlt)]
 unfold putRow mapBlock
 simp only [heap_ahead,Array.getElem?_modify,if_true,h]
 rfl
theorem yz {α:Type} [Inhabited α] {enc:α → Value} {w:World} {g m:Nat} {d:Array α} {os:Array Obj} {b:Nat} (hb:b < w.heap.size) (hne:b ≠ g):(sortWorld enc w g 0 m d os).heap[b]? = w.heap[b]?:=by
 unfold sortWorld
 rw [heap_grow_old _ _ (by simpa using hb)]
 unfold putRow mapBlock
 simp only [heap_ahead,Array.getElem?_modify,if_neg (Ne.symm hne)]
theorem aii {α:Type} [Inhabited α] {enc:α → Value} {w:World} {g m:Nat} {d:Array α} {os:Array Obj}:Below 0 w (sortWorld enc w g 0 m d os) :=
 ⟨rfl,rfl,rfl,by unfold sortWorld;simp,fun k hk=>absurd hk (Nat.not_lt_zero k),by unfold sortWorld grow;simp⟩
theorem ap2 {α:Type} [Inhabited α] {enc:α → Value} {d:Array α} {cur:Array Value} (h:d.size ≤ cur.size):(putCells enc 0 d cur).toList.take d.size = d.toList.map enc:=by
 apply List.ext_getElem?
 intro k
 rw [List.getElem?_take,List.getElem?_map,Array.getElem?_toList,Array.getElem?_toList]
 by_cases hk:k < d.size
 · rw [if_pos hk]
   unfold putCells
   rw [Array.getElem?_mapIdx,Array.getElem?_eq_getElem (by omega),Array.getElem?_eq_getElem hk]
   simp only [Option.map_some,Nat.zero_add,Nat.sub_zero]
   rw [if_pos ⟨Nat.zero_le _,hk⟩,getElem!_pos d k hk]
 · rw [if_neg hk,Array.getElem?_eq_none (by omega)]
   rfl
theorem alt {P:Program} {ρ:Go.Shelf.Ren} {α:Type} [Inhabited α] (L:SlLaysF.n6 P ρ) (enc:α → Value) (h1:∀ x,(enc x).oneCell' = true) (cf:α → α → Int) (hO:SWO (ltOf cf)) (hT:∀ x y,(ltOf cf) x y = false → (ltOf cf) y x = false → x = y)
 (g:Nat) (caps:Nat → PV) (hg:∀ args w,(callFunc g args).run P w = .ok (.enter g args) w) (hc:∀ x y,ai P g [.one (.raw (enc x)), .one (.raw (enc y))] (ao [.one (.raw (.int .i64 (cf x y)))])) (id:Nat) (e:TypeId) (l:List α) (hsz:l.length ≤ 8589934592) :
 dg P (ρ.f 6) [.one (.ref id l.length), .one (.p (.fn g 0 caps))] [(id, .arr true 1 e l.length (lf (fun x _=>.raw (enc x)) l))] (.tup [])
  [(id, .arr true 1 e l.length (lf (fun x _=>.raw (enc x)) (l.mergeSort fun x y=>!(ltOf cf) y x)))] [id]:=by
 intro w c us hM hus
 match us,hus with
 | [u,v],⟨hu,hv,_⟩ =>
  obtain ⟨cs,rfl,hcl,_⟩:=hv
  have hcs:cs = []:=List.eq_nil_of_length_eq_zero hcl
  subst hcs
  have hl1:lk [(id,al.arr true 1 e l.length (lf (fun x _=>.raw (enc x)) l))] id = some (.arr true 1 e l.length (lf (fun x _=>.raw (enc x)) l)):=by simp [lk]
  have hu2:=(hu.2.2 _ _ _ _ hl1 rfl).2 rfl
  subst hu2
  have hob:=hM.objs id _ hl1
  obtain ⟨h0,hmax,h5⟩:=hob
  have hlen:(l.mergeSort fun x y=>!(ltOf cf) y x).length = l.length:=List.length_mergeSort _
  have hev:∀ f':Nat → Nat → PV,Evo c (lk [(id,al.arr true 1 e l.length (lf (fun x _=>.raw (enc x)) l))]) c (lk [(id,al.arr true 1 e l.length f')]) id:=fun f' =>
   .inr (.inr ⟨_, .arr true 1 e l.length f',1,e,l.length,l.length,hl1,rfl,by simp [lk],rfl,Nat.le_refl _,fun _=>rfl,fun _ _ _ _ _ _ _ h=>by cases h⟩)
  rcases Nat.eq_zero_or_pos l.length with hz | hpos
  ·
   have hl:l = []:=List.eq_nil_of_length_eq_zero hz
   subst hl
   have hform:∃ ad cap,c.own id = .slice ad 0 cap:=by
    rcases h5 with ⟨_,xs,h2,_⟩ | ⟨_,_,ad,cap,hv,_⟩
    · rcases h2.2 with ⟨hv,_⟩ | ⟨g,cap,cur,hv,_⟩
      · exact ⟨none,0,hv⟩
      · exact ⟨_,cap,hv⟩
    · exact ⟨ad,cap,hv⟩
   obtain ⟨ad,cap,hown⟩:=hform
   have hms:([]:List α).mergeSort (fun x y=>!(ltOf cf) y x) = []:=by simp
   rw [hown,hms]
   refine (AnyF.slices_SortFunc_none { L with } ad cap (.func (.func g) #[] #[]) w).mono ?_
   rintro e' w' ⟨rfl,rfl⟩
   exact ⟨_,c,rfl,⟨[],rfl,trivial⟩,hM,Below.refl _ _,fun _ _ _=>⟨rfl,rfl⟩,fun id0 ob b ho hb=>.inr ⟨id0,ob,ho,hb⟩,fun id0 hid=>by
    rw [List.mem_singleton.1 hid]
    exact Evo.refl _ _ _⟩
  · obtain ⟨h6,xs,h2,h4⟩:c.blk id = gu (c.own id) ∧ ∃ xs,w.ownsRow 0 e 1 (c.own id) l.length xs ∧ ∀ i j,i < l.length → j < 1 → ∃ x,xs[i * 1 + j]? = some x ∧ b6 c.imm (lf (fun x _=>.raw (enc x)) l i j) x:=by
     rcases h5 with h5 | ⟨h6 | h6,_⟩
     · exact h5
     · cases h6
     · omega
    obtain ⟨hxl,hrow⟩:=h2
    rcases hrow with ⟨_,hz⟩ | ⟨b,cap,cur,hown,hbase,hheap,hnc,hcm,hcs,htake⟩
    · omega
    have hblk:c.blk id b:=by rw [h6,hown];rfl
    have hlt:b < w.heap.size:=(Array.getElem?_eq_some_iff.1 hheap).1
    have hcell:∀ j,(hj:j < l.length) → cur[j]? = some (enc l[j]):=fun j hj=>by
     obtain ⟨x,hx,hr⟩:=h4 j 0 hj (by omega)
     rw [Nat.mul_one,Nat.add_zero,← htake,List.getElem?_take,if_pos (by omega),Array.getElem?_toList] at hx
     rw [hx]
     have hr:x = enc (l.getD j default) ∧ _:=hr
     rw [hr.1,List.getD_eq_getElem?_getD,List.getElem?_eq_getElem hj]
     rfl
    have hH:Holds enc w b 0 l.toArray:=fun j hj=>by
     have hj:j < l.length:=by simpa using hj
     rw [Nat.zero_add]
     refine ⟨?_,by simp [World.frozen?,hheap]⟩
     have:l.toArray[j]! = l[j]:=by rw [getElem!_pos l.toArray j (by simpa using hj)];simp
     rw [this]
     simp [World.cell?,hheap,hcell j hj]
    have hcmp:CmpLays1 P g #[] enc cf b 0 l.toArray.size w:=by
     intro m os dk hdk x y
     have hcimm:∀ b' ob,c.imm b' = some ob → (sortWorld enc w b 0 m dk os).heap[b']? = some ob:=fun b' ob hb'=>by
      have hne:b' ≠ b:=fun he=>by
       have:=hM.sep id _ b hl1 hblk
       rw [← he,hb'] at this
       cases this
      have hw:=hM.imm b' ob hb'
      rw [yz (Array.getElem?_eq_some_iff.1 hw).1 hne]
      exact hw
     have h:=hc x y (sortWorld enc w b 0 m dk os) c.imm [enc x,enc y] c.tab hcimm ⟨⟨rfl,h1 x⟩,⟨rfl,h1 y⟩,trivial⟩
     refine h.mono ?_
     rintro e' w' ⟨v,imm',rfl,hr,_,_,hb⟩
     obtain ⟨q,os',hq⟩:=ai7 hb
     exact ⟨by rw [hr.1],q,os',hq⟩
    have hS:=Any.slices_SortFunc_total L enc h1 cf hO g #[] b 0 cap l.toArray w hg hcmp hH hlt (by rw [List.size_toArray];omega) hT
    rw [hown]
    refine Calls.mono hS ?_
    rintro e' w' ⟨rfl,m,os,rfl⟩
    generalize hSd:(l.mergeSort fun x y=>!(ltOf cf) y x) = S at *
    refine ⟨_,c,rfl,⟨[],rfl,trivial⟩,⟨fun id0 ob ho=>?_,fun id0 id1 ob0 ob1 b' ho0 ho1 _ _=>(nj ho0).1.trans (nj ho1).1.symm,fun b' ob hb'=>?_,fun id0 ob b' ho hb'=>?_⟩,aii,
     fun b' hb' hno=>⟨yz hb' (fun he=>hno id _ hl1 (by rw [he];exact hblk)),rfl⟩,fun id0 ob b' ho hb'=>.inr ⟨id,_,hl1,by rw [← (nj ho).1];exact hb'⟩,fun id0 hid=>by
      rw [List.mem_singleton.1 hid]
      exact hev _⟩
    · obtain ⟨rfl,rfl⟩:=nj ho
      refine ⟨h0,hmax, .inl ⟨h6,S.map enc,⟨by simp [hlen], .inr ⟨b,cap,putCells enc 0 S.toArray cur,hown,hbase,ai9 hheap,hnc,hcm,by simpa [putCells] using hcs, ?_⟩⟩,fun i j hi hj=>?_⟩⟩
      · have:=ap2 (enc:=enc) (d:=S.toArray) (cur:=cur) (by rw [List.size_toArray,hlen,hcs];omega)
        rw [List.size_toArray,hlen] at this
        rw [Nat.mul_one]
        exact this
      · obtain rfl:j = 0:=by omega
        have hi':i < S.length:=by rw [hlen];exact hi
        refine ⟨enc S[i], ?_, ?_⟩
        · rw [Nat.mul_one,Nat.add_zero,List.getElem?_map,List.getElem?_eq_getElem hi']
          rfl
        · show b6 c.imm (.raw (enc (S.getD i default))) _
          rw [List.getD_eq_getElem?_getD,List.getElem?_eq_getElem hi']
          exact ⟨rfl,h1 _⟩
    · have hne:b' ≠ b:=fun he=>by
       have:=hM.sep id _ b hl1 hblk
       rw [← he,hb'] at this
       cases this
      have hw:=hM.imm b' ob hb'
      rw [yz (Array.getElem?_eq_some_iff.1 hw).1 hne]
      exact hw
    · have:=(nj ho).1
      subst this
      exact hM.sep id0 _ b' hl1 hb'
 | [],h=>exact h.elim
 | [_],⟨_,h⟩=>exact h.elim
 | _ :: _ :: _ :: _,⟨_,_,h⟩=>exact h.elim
theorem xp {a b:AS}:ltOf zx a b = bef a b:=ark
theorem apk:SWO (ltOf zx) where
 irrefl x:=by rw [xp];exact y6 x
 trans x y z h k:=by rw [xp] at *;exact oq h k
 ntrans x y z h k:=by
  rw [xp] at *
  rw [Bool.eq_false_iff,ne_eq,ke] at *
  omega
def srt (l:List AS):List AS:=l.mergeSort fun x y=>!bef y x
theorem awk:goodFn Tryz.prog 112:=⟨Tryz.f112,Tryz.func112,by kernel_rfl,by kernel_rfl⟩
theorem b2o (id:Nat) (caps:Nat → PV) (l:List AS) (hsz:l.length ≤ 8589934592):dg Tryz.prog 112 [.one (.ref id l.length), .one (.p (.fn 113 0 caps))] [(id, .arr true 1 38 l.length (lf sC l))] (.tup [])
 [(id, .arr true 1 38 l.length (lf sC (srt l)))] [id]:=by
 have h:=alt Tryz.laysSort (fun s:AS=>.int .u32 (asI s)) (fun _=>rfl) zx apk (fun x y h k=>by
  rw [xp] at h k
  apply Classical.byContradiction
  intro hne
  rcases a28 hne with h2 | h2
  · rw [h] at h2;cases h2
  · rw [k] at h2;cases h2) 113 caps (enters_of Tryz.func113 (by kernel_rfl) rfl) (fun x y=>art x y) id 38 l hsz
 have e:(fun x y:AS=>!(ltOf zx) y x) = fun x y=>!bef y x:=by
  funext x y
  rw [xp]
 rw [e] at h
 exact h
theorem awy {l:List AS} {x:AS}:x ∈ srt l ↔ x ∈ l:=by unfold srt;exact List.mem_mergeSort
theorem ah9 (l:List AS):(srt l).length = l.length:=List.length_mergeSort _
theorem a1e:∀ {l:List AS} {p:Option AS},l.Pairwise (fun a b=>bef b a = false) → (∀ x,p = some x → ∀ y ∈ l,bef y x = false) → (j5 p l).Pairwise (fun a b=>bef a b = true) ∧ ∀ x,p = some x → ∀ y ∈ j5 p l,bef x y = true
 | [],p,_,_=>⟨by simp [j5],fun x _ y hy=>by simp [j5] at hy⟩
 | z :: l,p,h,hp=>by
  obtain ⟨h1,h2⟩:=List.pairwise_cons.1 h
  simp only [j5]
  split
  · rename_i e
    subst e
    exact a1e h2 fun x hx y hy=>hp x hx y (List.mem_cons_of_mem _ hy)
  · rename_i hne
    obtain ⟨q1,q2⟩:=a1e (p:=some z) h2 fun x hx y hy=>by
     simp only [Option.some.injEq] at hx
     subst hx
     exact h1 y hy
    refine ⟨List.pairwise_cons.2 ⟨fun y hy=>q2 z rfl y hy,q1⟩,fun x hx y hy=>?_⟩
    have hxz:bef x z = true:=by
     have h3:=hp x hx z List.mem_cons_self
     rcases a28 (a:=x) (b:=z) (fun e=>hne (by rw [hx,e])) with h4 | h4
     · exact h4
     · rw [h3] at h4;cases h4
    rcases List.mem_cons.1 hy with rfl | hy
    · exact hxz
    · exact oq hxz (q2 z rfl y hy)
theorem aso (l:List AS):lm (srt l) = ord l:=by
 refine adl (a1e ?_ fun x hx=>by cases hx).1 fun z=>by rw [ae0,awy]
 have h:=List.pairwise_mergeSort (le:=fun x y:AS=>!bef y x) (fun a b c h k=>by
  simp only [Bool.not_eq_true'] at *
  rw [Bool.eq_false_iff,ne_eq,ke] at *
  omega) (fun a b=>by
  simp only [Bool.or_eq_true,Bool.not_eq_true']
  rw [Bool.eq_false_iff,Bool.eq_false_iff,ne_eq,ne_eq,ke,ke]
  omega) l
 refine h.imp fun {a b} hab=>?_
 simpa using hab
end Go.Hx
end
section
namespace Go.Hx
abbrev vB (b:Bool):HR:=bt (.raw (.bool b))
abbrev bx (a:PV):PV:=.vp 1 fun j=>[a].getD j .any
def mf (W:AS → AS → Bool) (l:List AS) (x:AS):Bool:=l.any fun b=>decide (x ≠ b) && W x b
def qz (W:AS → AS → Bool) (l:List AS):List AS:=(ord l).filter fun x=>!mf W (ord l) x
def kr (a b:AS):Bool:=decide (sub a b)
def ip (l:List AS):List AS:=qz kr l
theorem oc (l:List AS):(ord l).Nodup:=(gd l).imp fun {a b} h e=>by
 subst e
 rw [y6] at h
 cases h
def okT (l:List AS) (i k:Nat):Bool:=(List.range k).all fun j=>decide (j = i) || !kr (l.getD i default) (l.getD j default)
theorem apb (l:List AS) (i k:Nat):okT l i (k + 1) = (okT l i k && (decide (k = i) || !kr (l.getD i default) (l.getD k default))):=by
 unfold okT
 rw [List.range_succ,List.all_append]
 simp
theorem okT_succ' (l:List AS) (i k:Nat):okT l i (k + 1) = (okT l i k && (decide ((k:Int) = i) || !kr (l.getD i default) (l.getD k default))):=by
 rw [apb,decide_eq_decide.2 (show (k:Int) = i ↔ k = i by omega)]
theorem agd {l:List AS} {i:Nat} (hn:l.Nodup) (hi:i < l.length):okT l i l.length = !mf kr l (l.getD i default):=by
 rw [Bool.eq_iff_iff]
 unfold okT mf
 rw [List.all_eq_true,Bool.not_eq_true',List.any_eq_false]
 constructor
 · intro h b hb hc
   obtain ⟨j,hj,rfl⟩:=List.getElem_of_mem hb
   have:=h j (List.mem_range.2 hj)
   simp only [Bool.and_eq_true,decide_eq_true_eq,Bool.or_eq_true,Bool.not_eq_true',List.getD_eq_getElem?_getD,List.getElem?_eq_getElem hj,List.getElem?_eq_getElem hi,Option.getD_some] at this hc
   rcases this with h1 | h1
   · subst h1;exact hc.1 rfl
   · rw [hc.2] at h1;cases h1
 · intro h j hj
   have hj:=List.mem_range.1 hj
   have:=h l[j] (List.getElem_mem hj)
   simp only [List.getD_eq_getElem?_getD,List.getElem?_eq_getElem hj,List.getElem?_eq_getElem hi,Option.getD_some,Bool.or_eq_true,decide_eq_true_eq,Bool.not_eq_true',Bool.and_eq_true] at this ⊢
   by_cases e:j = i
   · exact .inl e
   · right
     rw [Bool.eq_false_iff]
     intro hs
     refine this ⟨fun he=>e ?_,hs⟩
     exact ((List.getElem_inj hn).1 he).symm
def mt (l:List AS) (i:Nat):List AS:=((ord l).take i).filter fun x=>!mf kr (ord l) x
theorem a2t {l:List AS} {i:Nat} (hi:i < (ord l).length) (h:okT (ord l) i (ord l).length = true):mt l (i + 1) = mt l i ++ [(ord l).getD i default]:=by
 rw [agd (oc l) hi] at h
 unfold mt
 rw [be hi,List.filter_append]
 simp only [List.filter_cons,h,if_true,List.filter_nil]
theorem a29 {l:List AS} {i:Nat} (hi:i < (ord l).length) (h:okT (ord l) i (ord l).length = false):mt l (i + 1) = mt l i:=by
 rw [agd (oc l) hi] at h
 unfold mt
 rw [be hi,List.filter_append]
 simp only [List.filter_cons,h,Bool.false_eq_true,if_false,List.filter_nil,List.append_nil]
theorem amd (l:List AS) (i:Nat):(mt l i).length ≤ i:=by
 unfold mt
 exact Nat.le_trans (List.length_filter_le _ _) (by rw [List.length_take];omega)
theorem am9 (l:List AS):mt l (ord l).length = ip l:=by
 unfold mt ip qz
 rw [List.take_length]
end Go.Hx
end
section
namespace Go.Hx
open Go.Proofs
set_option maxRecDepth 100000
theorem a6v:goodFn Tryz.prog 56:=⟨Tryz.f56,Tryz.func56,by kernel_rfl,by kernel_rfl⟩
theorem a58 (l:List AS) (hl:l.length ≤ 8589934592):ai Tryz.prog 56 [pP (asl l)] (ao [pP (asl (ord l))]):=by
 refine ah (nt:=10) ae Tryz.func56 rfl rfl l9 ?_;refine sx7 ?_;refine qy ?_;refine a6 ?_;refine sx7 ?_;refine qy ?_
 refine cn rfl rfl rfl rfl rfl rfl ada (a8d l.length false (lf sC l) (by omega)) (fe.refl _) trivial rfl rfl ?_;refine qy ?_;refine a6 ?_;refine sx7 ?_;refine qy ?_
 refine cn rfl rfl rfl rfl rfl rfl awk (b2o 0 _ l hl) (fe.refl _) ⟨u9,trivial⟩ rfl rfl ?_;refine a6 ?_;refine sx7 ?_;refine qy ?_
 refine cn rfl rfl rfl rfl rfl rfl atw ((aqk (srt l)).swap 900 0) (⟨congrArg (HV.ref 0) (ah9 l).symm,trivial⟩) ⟨⟨_,rfl,mn rfl (ah9 l).symm⟩,trivial⟩ rfl rfl ?_;refine qy ?_;refine a6 ?_
 exact hx8 rfl rfl rfl (⟨CoC.one (CoP.of_eq (by rw [aso])),trivial⟩)
theorem awo:goodFn Tryz.prog 140:=⟨Tryz.f140,Tryz.func140,by kernel_rfl,by kernel_rfl⟩
theorem axf (b x:AS) (g k:Nat) (caps:Nat → PV) (W:AS → AS → Bool) (hg:goodFn Tryz.prog g) (hW:∀ x y,ai Tryz.prog g (pA x :: pA y :: gw caps k 0) (ao [pB (W x y)])):ai Tryz.prog 140 [pA b,pP (bx (asC x)),pP (bx (.fn g k caps))] (ao [pB (decide (x ≠ b) && W x b)]):=by
 refine ah (nt:=14) ae Tryz.func140 rfl rfl l9 ?_;refine sx7 ?_;refine qy ?_;refine a6 ?_;refine sx7 ?_;(iterate 4 refine qy ?_);refine b4 rfl rfl (fun r0=>?_) (fun r0=>?_)
 ·
  have h0:=r0
  have h0:=of_decide_eq_false (av h0)
  try simp only [ty] at h0
  (iterate 3 refine qy ?_ (hg:=(gtt r0)));refine rc rfl rfl rfl rfl rfl rfl hg (hW x b) (CoL.refl _) rfl (gtt r0) ?_;(iterate 2 refine qy ?_);refine a6 ?_
  exact hx8 rfl rfl rfl (⟨ccb (by simp_all [ep]),trivial⟩)
 ·
  have h0:=r0
  have h0:=of_decide_eq_true (aw h0)
  try simp only [ty] at h0
  (iterate 4 refine k9 (gft r0) ?_);refine rq rfl rfl rfl rfl rfl ?_ (hp:=r0);refine qy ?_;refine a6 ?_
  exact hx8 rfl rfl rfl (⟨ccb (by simp_all [ep]),trivial⟩)
theorem axg:goodFn Tryz.prog 139:=⟨Tryz.f139,Tryz.func139,by kernel_rfl,by kernel_rfl⟩
theorem b0u (x:AS) (l:List AS) (g k:Nat) (caps:Nat → PV) (W:AS → AS → Bool) (hg:goodFn Tryz.prog g) (hW:∀ x y,ai Tryz.prog g (pA x :: pA y :: gw caps k 0) (ao [pB (W x y)])):ai Tryz.prog 139 [pA x,pP (bx (asl l)),pP (bx (.fn g k caps))] (ao [pB (mf W l x)]):=by
 refine ah (nt:=8) ae Tryz.func139 rfl rfl l9 ?_;refine sx7 ?_;refine m9 0 ?_;refine qy ?_;refine a6 ?_;refine a7 ?_;refine l7 3 rfl rfl rfl ?_;refine gy ?_;(iterate 2 refine qy ?_)
 refine rc rfl rfl rfl rfl rfl rfl azv (b2j l 140 2 (fun i=>[bx (asC x),bx (.fn g k caps)].getD i .any) (fun b=>decide (x ≠ b) && W x b) awo (fun b=>axf b x g k caps W hg hW)) (CoL.refl _) rfl rfl ?_
 refine qy ?_;refine a6 ?_
 exact hx8 rfl rfl rfl (CoL.refl _)
theorem ayv:goodFn Tryz.prog 92:=⟨Tryz.f92,Tryz.func92,by kernel_rfl,by kernel_rfl⟩
theorem b26 (l:List AS) (hl:l.length ≤ 8589934592) (g k:Nat) (caps:Nat → PV) (W:AS → AS → Bool) (hg:goodFn Tryz.prog g) (hW:∀ x y,ai Tryz.prog g (pA x :: pA y :: gw caps k 0) (ao [pB (W x y)])):ai Tryz.prog 92 [pP (asl l),pP (.fn g k caps)] (ao [pP (asl (qz W l))]):=by
 refine ah (nt:=12) ae Tryz.func92 rfl rfl l9 ?_;refine sx7 ?_;refine m9 2 ?_;refine qy ?_;refine a6 ?_;refine sx7 ?_;refine qy ?_
 refine rc rfl rfl rfl rfl rfl rfl a6v (a58 l hl) (CoL.refl _) rfl rfl ?_;refine m9 3 ?_;refine s9 ?_;refine a6 ?_;refine a7 ?_;refine l7 5 rfl rfl rfl ?_;refine l7 3 rfl rfl rfl ?_
 refine gy ?_;refine qy ?_;refine cn rfl rfl rfl rfl rfl rfl ada (a8d (ord l).length false (lf sC (ord l)) (Nat.le_trans (ot l) (by omega))) (fe.refl _) trivial rfl rfl ?_;refine qy ?_
 refine cn rfl rfl rfl rfl rfl rfl avv ((b2p (ord l) 139 2 (fun i=>[bx (asl (ord l)),bx (.fn g k caps)].getD i .any) (mf W (ord l)) axg (fun x=>b0u x (ord l) g k caps W hg hW)).swap 900 0) (fe.refl _) ⟨u9,trivial⟩ rfl rfl ?_
 refine qy ?_;refine a6 ?_
 exact hx8 rfl rfl rfl (CoL.refl _)
theorem b0h:goodFn Tryz.prog 93:=⟨Tryz.f93,Tryz.func93,by kernel_rfl,by kernel_rfl⟩
theorem b1c (a b:AS):ai Tryz.prog 93 [pA a,pA b] (ao [pB (kr a b)]):=by
 refine ah (nt:=9) ae Tryz.func93 rfl rfl l9 ?_;refine sx7 ?_;refine qy ?_;refine a6 ?_;refine sx7 ?_;(iterate 5 refine qy ?_);refine a6 ?_
 exact hx8 rfl rfl rfl (⟨ccb (decide_eq_decide.2 afp),trivial⟩)
theorem b08:goodFn Tryz.prog 46:=⟨Tryz.f46,Tryz.func46,by kernel_rfl,by kernel_rfl⟩
theorem arb (l:List AS) (hl:l.length ≤ 8589934592):ai Tryz.prog 46 [pP (asl l)] (ao [pP (asl (ip l))]):=by
 refine ah (nt:=5) ae Tryz.func46 rfl rfl l9 ?_;refine sx7 ?_;refine qy ?_;refine a6 ?_;refine sx7 ?_;refine qy ?_
 refine rc rfl rfl rfl rfl rfl rfl ayv (b26 l hl 93 0 _ kr b0h (fun a b=>b1c a b)) (CoL.refl _) rfl rfl ?_;refine qy ?_;refine a6 ?_
 exact hx8 rfl rfl rfl (CoL.refl _)
theorem az9:goodFn Tryz.prog 47:=⟨Tryz.f47,Tryz.func47,by kernel_rfl,by kernel_rfl⟩
theorem aoh (l:List AS) (hl:l.length ≤ 8589934592):ai Tryz.prog 47 [pP (asl l)] (ao [pP (asl (ip l))]):=by
 refine ah (nt:=49) ae Tryz.func47 rfl rfl l9 ?_;refine sx7 ?_;refine qy ?_;refine a6 ?_;refine sx7 ?_;refine qy ?_;refine a6 ?_;refine sx7 ?_;refine qy ?_
 refine rc rfl rfl rfl rfl rfl rfl aco (a7h l hl) (CoL.refl _) rfl rfl ?_;refine qy ?_;refine a6 ?_;refine a7 ?_;refine sx7 ?_;refine qy ?_;refine a6 ?_;refine ab ?_
 have hol:=ot l
 refine db 3 900 true 1 38 (lf sC []) (by decide) rfl (CoP.sl rfl (.inr rfl) (fun h=>h) (fun i j hi _=>absurd hi (Nat.not_lt_zero i))) (.inr rfl) rfl ?_
 refine aj (ι:=Nat) ⟨[(4,some _)],[]⟩ ⟨⟨c9,trivial⟩,trivial⟩ (fun i=>⟨[(3,some (.v (.one (.ref 900 (mt l i).length)))),(5,some (vI i))],[(900,some (.arr true 1 38 (mt l i).length (lf sC (mt l i))))]⟩) (fun i=>i ≤ (ord l).length) (fun i=>(ord l).length - i) (0) (Nat.zero_le _) ⟨⟨zy,zy,trivial⟩,⟨u9,trivial⟩⟩ ?_
 rintro i hi
 have hlen:=amd l i
 refine a7 ?_;refine sx7 ?_;(iterate 4 refine qy ?_);refine a6 ?_;refine a8 _ rfl (fun r0=>?_) (fun r0=>?_)
 ·
  have h0:=of_decide_eq_true r0
  try simp only [ty] at h0
  refine aa ?_;refine a7 ?_;refine ab ?_;refine sx7 ?_;refine qy ?_;refine a6 ?_;refine a7 ?_;refine sx7 ?_;refine qy ?_;refine a6 ?_;refine ab ?_
  refine aj (ι:=Nat) ⟨[(3,some _),(4,some _),(5,some _)],[(900,some _)]⟩ ⟨⟨c9,c9,c9,trivial⟩,⟨u9,trivial⟩⟩ (fun k=>⟨[(6,some (vB (okT (ord l) i k))),(7,some (vI k))],[]⟩) (fun k=>k ≤ (ord l).length) (fun k=>(ord l).length - k) (0) (Nat.zero_le _) ⟨⟨⟨_,rfl,(cob rfl)⟩,zy,trivial⟩,trivial⟩ ?_
  rintro k hk
  refine a7 ?_;refine sx7 ?_;(iterate 4 refine qy ?_);refine a6 ?_;refine a8 _ rfl (fun r1=>?_) (fun r1=>?_)
  ·
   have h1:=of_decide_eq_true r1
   try simp only [ty] at h1
   refine aa ?_;refine a7 ?_;refine ab ?_;refine ax (E:=bf) ae ar [0,1,2,3,4,5,6,7,8,9,10,11,12,13,14,15,16,17,18] ?_;(iterate 2 refine qy ?_)
   refine b4 rfl rfl (fun r2=>?_) (fun r2=>?_)
   ·
    have h2:=r2
    (iterate 4 refine qy ?_ (hg:=(gtt r2)));refine b4 rfl rfl (fun r3=>?_) (fun r3=>?_)
    ·
     have h3:=of_decide_eq_true r3
     try simp only [ty] at h3
     (iterate 10 refine k9 (gtf r3) ?_);refine rq rfl rfl rfl rfl (gtt r2) ?_ (hp:=r3);(iterate 2 refine qy ?_);refine a6 ?_;refine ⟨by kernel_rfl, ?_⟩;refine gy ?_;(iterate 3 refine qy ?_);refine a6 ?_
     refine ⟨k + 1, ?_, ?_, ?_⟩
     · show k + 1 ≤ _;omega
     · first | omega | (dsimp only;omega)
     · exact ⟨⟨⟨_,rfl,(cob (by rw [okT_succ'];simp_all only [kr];simp))⟩,zy,c9,c9,c9,trivial⟩,⟨u9,trivial⟩⟩
    ·
     have h3:=of_decide_eq_false r3
     try simp only [ty] at h3
     (iterate 8 refine qy ?_ (hg:=(gff r3)));refine rc rfl rfl rfl rfl rfl rfl uf (z7 _ _) (CoL.refl _) rfl (gff r3) ?_;refine qy ?_ (hg:=(gff r3));refine qy ?_ (hg:=(gtt r2));(iterate 2 refine qy ?_)
     refine a6 ?_;refine ⟨by kernel_rfl, ?_⟩;refine gy ?_;(iterate 3 refine qy ?_);refine a6 ?_;refine ⟨k + 1, ?_, ?_, ?_⟩
     · show k + 1 ≤ _;omega
     · first | omega | (dsimp only;omega)
     · exact ⟨⟨⟨_,rfl,(cob (by rw [okT_succ'];simp_all only [kr];simp))⟩,zy,c9,c9,c9,trivial⟩,⟨u9,trivial⟩⟩
   ·
    have h2:=r2
    (iterate 4 refine k9 (gft r2) ?_);(iterate 10 refine k9 rfl ?_);refine k9 (gft r2) ?_;refine rq rfl rfl rfl rfl rfl ?_ (hp:=r2);refine qy ?_;refine a6 ?_;refine ⟨by kernel_rfl, ?_⟩;refine gy ?_
    (iterate 3 refine qy ?_);refine a6 ?_;refine ⟨k + 1, ?_, ?_, ?_⟩
    · show k + 1 ≤ _;omega
    · first | omega | (dsimp only;omega)
    · exact ⟨⟨⟨_,rfl,(cob (by rw [okT_succ'];simp_all only [kr];simp))⟩,zy,c9,c9,c9,trivial⟩,⟨u9,trivial⟩⟩
  ·
   have h1:=of_decide_eq_false r1
   try simp only [ty] at h1
   obtain rfl:k = (ord l).length:=by omega
   refine ak ?_;refine sx7 ?_;refine qy ?_;refine a6 ?_;refine a8 _ rfl (fun r4=>?_) (fun r4=>?_)
   ·
    have h4:=r4
    refine gy ?_;(iterate 5 refine qy ?_);refine m9 0 ?_;refine ra 1 true rfl rfl rfl rfl rfl rfl ?_;refine qy ?_;refine a6 ?_;refine gy ?_;(iterate 3 refine qy ?_);refine a6 ?_
    first | (refine ⟨i + 1, ?_, ?_, ?_⟩
             · show i + 1 ≤ _;omega
             · first | omega | (dsimp only;omega)
             · exact ⟨⟨⟨_,rfl,(d7 (a2t (by omega) (by assumption)))⟩,zy,c9,trivial⟩,⟨⟨_,rfl,(cw (a2t (by omega) (by assumption)) (CoP.refl _))⟩,trivial⟩⟩)
          | (refine ⟨i + 1, ?_, ?_, ?_⟩
             · show i + 1 ≤ _;omega
             · first | omega | (dsimp only;omega)
             · exact ⟨⟨⟨_,rfl,(ci (a29 (by omega) (by assumption)))⟩,zy,c9,trivial⟩,⟨⟨_,rfl,(c6 (a29 (by omega) (by assumption)))⟩,trivial⟩⟩)
   ·
    have h4:=r4
    refine aa ?_;refine gy ?_;(iterate 3 refine qy ?_);refine a6 ?_
    first | (refine ⟨i + 1, ?_, ?_, ?_⟩
             · show i + 1 ≤ _;omega
             · first | omega | (dsimp only;omega)
             · exact ⟨⟨⟨_,rfl,(d7 (a2t (by omega) (by assumption)))⟩,zy,c9,trivial⟩,⟨⟨_,rfl,(cw (a2t (by omega) (by assumption)) (CoP.refl _))⟩,trivial⟩⟩)
          | (refine ⟨i + 1, ?_, ?_, ?_⟩
             · show i + 1 ≤ _;omega
             · first | omega | (dsimp only;omega)
             · exact ⟨⟨⟨_,rfl,(ci (a29 (by omega) (by assumption)))⟩,zy,c9,trivial⟩,⟨⟨_,rfl,(c6 (a29 (by omega) (by assumption)))⟩,trivial⟩⟩)
 ·
  have h0:=of_decide_eq_false r0
  try simp only [ty] at h0
  obtain rfl:i = (ord l).length:=by omega
  refine ak ?_;refine sx7 ?_;(iterate 2 refine qy ?_);refine a6 ?_;refine bn 2 rfl rfl rfl ?_
  exact hx8 rfl rfl rfl (⟨CoC.one (CoP.of_eq (by rw [← am9];rfl)),trivial⟩)
end Go.Hx
end
section
namespace Go.Hx
def ato (l:List Fd):List Fd:=l.foldl (fun o x=>if x ∈ o then o else o ++ [x]) []
def b4n (l:List Fd) (i k:Nat):Bool:=(l.take k).any fun x=>decide (x = l.getD i default)
def am0 (f:Fd):List Fd:=(az (f.rhs &&& ~~~f.lhs)).map fun a=>(⟨f.lhs,(1:AS) <<< a⟩:Fd)
def abd (l:List Fd):List Fd:=(l.map am0).flatten
def b43 (l:List Fd) (i k:Nat):List Fd:=abd (l.take i) ++ (am0 (l.getD i default)).take k
theorem adf (s:AS):(az s).length ≤ 32:=by rw [← oe];exact a6d s
def exB (l:List Fd) (x:Fd) (a:Nat):Bool:=imp l ⟨x.lhs &&& ~~~((1:AS) <<< a),x.rhs⟩
def ahf (l:List Fd) (i:Nat):List Fd:=l.take i ++ l.drop (i + 1)
def b3n (l:List Fd) (i:Nat):Bool:=imp (ahf l i) (l.getD i default)
end Go.Hx
end
section
namespace Go.Hx
open Go.Proofs
set_option maxRecDepth 100000
def rwC (l:List Fd):Nat → PV
 | 0=>fdl l
 | _=>.any
abbrev b4u (ls:List (List Fd)):PV:=psl 1 rwC ls
end Go.Hx
end
section
namespace Go.Hx
def b48 (l:List Fd) (i k:Nat):List Fd:=abd (l.take i) ++ (dz ((l.getD i default).rhs &&& ~~~(l.getD i default).lhs) k).map fun a=>(⟨(l.getD i default).lhs,(1:AS) <<< a⟩:Fd)
def b3i (x:Fd) (a:Nat):Fd:=⟨x.lhs &&& ~~~((1:AS) <<< a),x.rhs⟩
def asg (i:Nat) (l:List Fd) (a:Nat):List Fd:=if c4 (l.getD i default).lhs a && exB l (l.getD i default) a then l.set i (b3i (l.getD i default) a) else l
def b53 (l:List Fd) (i k:Nat):List Fd:=((az (l.getD i default).lhs).take k).foldl (asg i) l
def b3q (l:List Fd) (i:Nat):List Fd:=(az (l.getD i default).lhs).foldl (asg i) l
def b3r (l:List Fd) (i:Nat):List Fd:=(List.range i).foldl b3q l
def aid:Nat → List Fd → Nat → List Fd
 | 0,l,_=>l
 | f + 1,l,i=>if i < l.length then (if b3n l i then aid f (ahf l i) i else aid f l (i + 1)) else l
def spl (l:List Fd):List Fd:=ato (abd l)
def alp (l:List Fd):List Fd:=ato (b3r (spl l) (spl l).length)
def b35 (l:List Fd):List Fd:=aid (alp l).length (alp l) 0
def b4l (t:AS) (l:List Fd):Prop:=∀ x ∈ l,sub x.lhs t
end Go.Hx
end
section
namespace Go.Hx
def aix (n:Int) (l:List Fd):List Fd:=if dl n l = 0 then b35 l else []
theorem act {s:Nat} {cl:Bool} {f:Nat → Nat → PV} {L:List AS} (h:L = []):CoP (.sl 0 s cl f) (asl L):=by subst h;exact b03
def b54 (l:List Fd) (i k:Nat):List Fd:=(List.range k).foldl (asg i) l
end Go.Hx
end
section
namespace Go.Hx
theorem zp (a b:Nat):a &&& b = 2 * (a / 2 &&& b / 2) + (a % 2 &&& b % 2):=by
 have h1:=Nat.div_add_mod (a &&& b) 2
 have h2:(a &&& b) % 2 = a % 2 &&& b % 2:=by
  have:=Nat.and_mod_two_pow (a:=a) (b:=b) (n:=1)
  simpa using this
 rw [Nat.and_div_two,h2] at h1
 exact h1.symm
theorem a7w (a b:Nat):(a % 2 &&& b % 2) = if a % 2 = 1 ∧ b % 2 = 1 then 1 else 0:=by
 rcases Nat.mod_two_eq_zero_or_one a with h | h <;> rcases Nat.mod_two_eq_zero_or_one b with k | k <;> rw [h,k] <;> rfl
theorem a1f {x s:Nat} (h:x &&& s = x):(x / 2 &&& s / 2 = x / 2) ∧ (x % 2 = 1 → s % 2 = 1):=by
 have h1:=zp x s
 rw [h,a7w] at h1
 split at h1 <;> rename_i hc
 · exact ⟨by omega,fun _=>hc.2⟩
 · exact ⟨by omega,fun hx=>by omega⟩
theorem ac3:∀ (x s z:Nat),x &&& s = x → z &&& s = z → z < x → z ≤ ((x - 1) &&& s):=by
 intro x
 induction x using Nat.strongRecOn with
 | _ x ih =>
  intro s z hx hz hlt
  obtain ⟨x1,x2⟩:=a1f hx
  obtain ⟨z1,z2⟩:=a1f hz
  rw [zp (x - 1) s,a7w]
  rcases Nat.mod_two_eq_zero_or_one x with hb | hb
  · have e1:(x - 1) / 2 = x / 2 - 1:=by omega
    have e2:(x - 1) % 2 = 1:=by omega
    have:=ih (x / 2) (by omega) (s / 2) (z / 2) x1 z1 (by omega)
    rw [e1,e2]
    by_cases hs:s % 2 = 1
    · rw [if_pos ⟨rfl,hs⟩];omega
    · rw [if_neg (fun h=>hs h.2)]
      have:z % 2 = 0:=by omega
      omega
  · have e1:(x - 1) / 2 = x / 2:=by omega
    have e2:(x - 1) % 2 = 0:=by omega
    rw [e1,e2,x1,if_neg (by omega)]
    omega
theorem ago:∀ (w y s:Nat),y &&& s = y → s < 2 ^ w → ((2 ^ w - 1 - y) &&& s) = s - y:=by
 intro w
 induction w with
 | zero=>intro y s h hs;obtain rfl:s = 0:=(by simpa using hs);simp
 | succ w ih =>
  intro y s h hs
  obtain ⟨y1,y2⟩:=a1f h
  have hle:y ≤ s:=by rw [← h];exact Nat.and_le_right
  rw [Nat.pow_succ] at hs ⊢
  have hp:=Nat.two_pow_pos w
  have:=ih (y / 2) (s / 2) y1 (by omega)
  have hle2:y / 2 ≤ s / 2:=by omega
  rw [zp,a7w,show (2 ^ w * 2 - 1 - y) / 2 = 2 ^ w - 1 - y / 2 by omega,this]
  split <;> omega
theorem anp {y s:Nat} (h:y &&& s = y):(s - y) &&& s = s - y:=by
 rw [← ago s y s h Nat.lt_two_pow_self,Nat.and_assoc,Nat.and_self]
theorem aww {w x s:Nat} (hx:x &&& s = x) (hs:s < 2 ^ w) (hne:x < s):((2 ^ w + x - s) &&& s) = s - ((s - x - 1) &&& s):=by
 have h1:((s - x - 1) &&& s) &&& s = (s - x - 1) &&& s:=by rw [Nat.and_assoc,Nat.and_self]
 rw [← ago w _ s h1 hs]
 have hp:=Nat.two_pow_pos w
 apply Nat.eq_of_testBit_eq
 intro i
 have hlt:s - x - 1 < 2 ^ w:=by omega
 have hlt2:((s - x - 1) &&& s) < 2 ^ w:=Nat.lt_of_le_of_lt Nat.and_le_left hlt
 rw [Nat.testBit_and,Nat.testBit_and,show 2 ^ w + x - s = 2 ^ w - (s - x - 1 + 1) by omega,Nat.testBit_two_pow_sub_succ hlt,show 2 ^ w - 1 - ((s - x - 1) &&& s) = 2 ^ w - (((s - x - 1) &&& s) + 1) by omega,Nat.testBit_two_pow_sub_succ hlt2,Nat.testBit_and]
 cases s.testBit i <;> simp
theorem adm {w x s z:Nat} (hx:x &&& s = x) (hs:s < 2 ^ w) (hz:z &&& s = z) (hlt:x < z):((2 ^ w + x - s) &&& s) ≤ z ∧ x < ((2 ^ w + x - s) &&& s):=by
 have hzs:z ≤ s:=by rw [← hz];exact Nat.and_le_right
 rw [aww hx hs (by omega)]
 have h1:=ac3 (s - x) s (s - z) (anp hx) (anp hz) (by omega)
 have h2:((s - x - 1) &&& s) ≤ s - x - 1:=Nat.and_le_left
 omega
theorem a14 {z s:AS}:sub z s ↔ z.toNat &&& s.toNat = z.toNat:=by
 rw [← BitVec.toNat_and,BitVec.toNat_inj,b5]
 constructor
 · intro h
   apply BitVec.eq_of_getLsbD_eq
   intro k hk
   rw [BitVec.getLsbD_and]
   cases hz:z.getLsbD k with
   | false=>rfl
   | true=>rw [h k hk hz];rfl
 · intro h i _ hi
   rw [← h,BitVec.getLsbD_and] at hi
   simp at hi
   exact hi.2
theorem agf {z s:AS} (h:sub z s):bsz z ≤ bsz s:=by
 unfold bsz
 apply List.countP_mono_left
 intro i hi hb
 exact b5.1 h i (List.mem_range.1 hi) hb
def ze (s:AS):Nat → AS → List AS
 | 0,_=>[]
 | n + 1,x=>x :: if x = 0 then [] else ze s n ((x - 1) &&& s)
theorem ab2 {x:AS} (h:x ≠ 0):(x - 1).toNat = x.toNat - 1:=by
 have h0:x.toNat ≠ 0:=fun e=>h (BitVec.eq_of_toNat_eq e)
 have:=x.isLt
 rw [BitVec.toNat_sub]
 show (2 ^ 32 - 1 + x.toNat) % 2 ^ 32 = _
 omega
theorem a3q {x s:AS}:sub ((x - 1) &&& s) s:=by
 rw [a14,BitVec.toNat_and,Nat.and_assoc,Nat.and_self]
theorem y7 {x s:AS} (h:x ≠ 0):((x - 1) &&& s).toNat < x.toNat:=by
 have h0:x.toNat ≠ 0:=fun e=>h (BitVec.eq_of_toNat_eq e)
 rw [BitVec.toNat_and,ab2 h]
 have:((x.toNat - 1) &&& s.toNat) ≤ x.toNat - 1:=Nat.and_le_left
 omega
theorem ad4 {x s z:AS} (hx:sub x s) (hz:sub z s) (h:z.toNat < x.toNat):z.toNat ≤ ((x - 1) &&& s).toNat:=by
 have h0:x ≠ 0:=fun e=>by subst e;exact absurd h (Nat.not_lt_zero _)
 rw [BitVec.toNat_and,ab2 h0]
 exact ac3 _ _ _ (a14.1 hx) (a14.1 hz) h
theorem aes {s:AS}:∀ (n:Nat) (x:AS),sub x s → x.toNat < n → ∀ z,z ∈ ze s n x ↔ sub z s ∧ z.toNat ≤ x.toNat
 | 0,x,_,h,z=>absurd h (Nat.not_lt_zero _)
 | n + 1,x,hx,h,z=>by
  unfold ze
  by_cases h0:x = 0
  · rw [if_pos h0,List.mem_singleton]
    subst h0
    constructor
    · rintro rfl;exact ⟨hx,Nat.le_refl _⟩
    · rintro ⟨_,h⟩
      exact BitVec.eq_of_toNat_eq (Nat.le_antisymm h (Nat.zero_le _))
  · rw [if_neg h0,List.mem_cons,aes n _ a3q (by have:=y7 (s:=s) h0;omega)]
    constructor
    · rintro (rfl | ⟨h1,h2⟩)
      · exact ⟨hx,Nat.le_refl _⟩
      · have:=y7 (s:=s) h0
        exact ⟨h1,by omega⟩
    · rintro ⟨h1,h2⟩
      by_cases he:z = x
      · exact .inl he
      · have hne:z.toNat ≠ x.toNat:=fun e=>he (BitVec.eq_of_toNat_eq e)
        exact .inr ⟨h1,ad4 hx h1 (by omega)⟩
def vh (s:AS):List AS:=ord (ze s (s.toNat + 1) s)
theorem sub_self (s:AS):sub s s:=by rw [a14,Nat.and_self]
theorem ajt {z s:AS} (h:sub z s):z.toNat ≤ s.toNat:=by rw [← a14.1 h];exact Nat.and_le_right
theorem aa4 {s z:AS}:z ∈ vh s ↔ sub z s:=by
 unfold vh
 rw [gh,aes _ _ (sub_self s) (Nat.lt_succ_self _)]
 exact ⟨fun h=>h.1,fun h=>⟨h,ajt h⟩⟩
theorem abx {l:List AS} {s:AS} (ho:nb l) (h:∀ z,z ∈ l ↔ sub z s):l = vh s:=nn ho (gd _) fun z=>by rw [h z];exact aa4.symm
def cb (s:AS):List AS:=if 12 < bsz s then [] else vh s
theorem ah4 {s:AS} (h:(12:Int) < bsz s):cb s = []:=if_pos (by omega)
theorem ag7 {s:AS} (h:¬ (12:Int) < bsz s):cb s = vh s:=if_neg (by omega)
def a5x (s:AS) (y:List AS × AS):Prop:=sub y.2 s ∧ y.1.length + y.2.toNat ≤ s.toNat + 1 ∧ ∀ z,z ∈ y.1 ↔ sub z s ∧ y.2.toNat ≤ z.toNat
theorem ao3 (s:AS):a5x s ([s],s):=⟨sub_self s,by simp only [List.length_singleton];omega,fun z=>by
 rw [List.mem_singleton]
 constructor
 · rintro rfl;exact ⟨sub_self _,Nat.le_refl _⟩
 · rintro ⟨h1,h2⟩;exact BitVec.eq_of_toNat_eq (Nat.le_antisymm (ajt h1) h2)⟩
theorem an3 {s:AS} {y:List AS × AS} (h:a5x s y) (h0:y.2 ≠ 0):a5x s (y.1 ++ [(y.2 - 1) &&& s],(y.2 - 1) &&& s):=by
 obtain ⟨h1,h2,h3⟩:=h
 have hl:=y7 (s:=s) h0
 refine ⟨a3q,by simp only [List.length_append,List.length_singleton];omega,fun z=>?_⟩
 rw [List.mem_append,List.mem_singleton,h3]
 constructor
 · rintro (⟨k1,k2⟩ | rfl)
   · exact ⟨k1,by dsimp only;omega⟩
   · exact ⟨a3q,Nat.le_refl _⟩
 · rintro ⟨k1,k2⟩
   dsimp only at k2
   by_cases hz:y.2.toNat ≤ z.toNat
   · exact .inl ⟨k1,hz⟩
   · have:=ad4 h1 k1 (by omega)
     exact .inr (BitVec.eq_of_toNat_eq (by omega))
theorem aot {s:AS} {y:List AS × AS} (h:a5x s y) (h0:y.2 = 0):ord y.1 = vh s:=abx (gd _) fun z=>by
 rw [gh,h.2.2,h0]
 exact ⟨fun h=>h.1,fun h=>⟨h,Nat.zero_le _⟩⟩
def nxt (x s:Nat):Nat:=if x = s then s + 1 else ((2 ^ 64 + x - s) &&& s)
def UpI (s:AS) (k:Nat) (y:List AS × Nat):Prop :=
 (y.2 = s.toNat + 1 ∨ y.2 &&& s.toNat = y.2) ∧ y.1.length ≤ k * 4294967296 + y.2 ∧ nb y.1 ∧ ∀ z,z ∈ y.1 ↔ sub z s ∧ (bsz z < k ∨ bsz z = k ∧ z.toNat < y.2)
theorem qa {x s:Nat} (hs:s < 2 ^ 32) (hx:x &&& s = x):x < nxt x s ∧ (nxt x s = s + 1 ∨ nxt x s &&& s = nxt x s) ∧ ∀ z,z &&& s = z → x < z → nxt x s ≤ z:=by
 have hle:x ≤ s:=by rw [← hx];exact Nat.and_le_right
 have hs':s < 2 ^ 64:=Nat.lt_trans hs (by decide)
 unfold nxt
 by_cases he:x = s
 · rw [if_pos he]
   refine ⟨by omega, .inl rfl,fun z hz hlt=>?_⟩
   have:z ≤ s:=by rw [← hz];exact Nat.and_le_right
   omega
 · rw [if_neg he]
   refine ⟨(adm hx hs' (Nat.and_self s) (by omega)).2, .inr (by rw [Nat.and_assoc,Nat.and_self]),fun z hz hlt=>(adm hx hs' hz hlt).1⟩
theorem zw {s:AS} {k:Nat} {y:List AS × Nat} (h:UpI s k y) (hy:y.2 ≤ s.toNat):y.2 &&& s.toNat = y.2:=by
 rcases h.1 with h | h
 · omega
 · exact h
theorem atl {s:AS} {k:Nat} {y:List AS × Nat} (h:UpI s k y):y.2 ≤ s.toNat + 1:=by
 rcases h.1 with h | h
 · omega
 · have:y.2 ≤ s.toNat:=by rw [← h];exact Nat.and_le_right
   omega
theorem an1 {s:AS} {k:Nat} {y:List AS × Nat} (h:UpI s k y) (hy:y.2 ≤ s.toNat):(BitVec.ofNat 32 y.2).toNat = y.2:=by
 have:=s.isLt
 rw [BitVec.toNat_ofNat,Nat.mod_eq_of_lt (by omega)]
theorem b10 {s:AS} {k:Nat} {y:List AS × Nat} (h:UpI s k y) (hy:y.2 ≤ s.toNat) (hk:bsz (BitVec.ofNat 32 y.2) = k):UpI s k (y.1 ++ [BitVec.ofNat 32 y.2],nxt y.2 s.toNat):=by
 have hn:=an1 h hy
 obtain ⟨s1,s2,s3⟩:=qa s.isLt (zw h hy)
 have hsub:sub (BitVec.ofNat 32 y.2) s:=a14.2 (by rw [hn];exact zw h hy)
 obtain ⟨h1,h2,h3,h4⟩:=h
 refine ⟨s2,by simp only [List.length_append,List.length_singleton];omega, ?_,fun z=>?_⟩
 · refine List.pairwise_append.2 ⟨h3,List.pairwise_singleton _ _,fun a ha b hb=>?_⟩
   rw [List.mem_singleton] at hb
   subst hb
   rw [ke]
   have:=((h4 a).1 ha).2
   omega
 · rw [List.mem_append,List.mem_singleton,h4]
   dsimp only
   constructor
   · rintro (⟨k1,k2⟩ | rfl)
     · exact ⟨k1,by omega⟩
     · exact ⟨hsub, .inr ⟨hk,by omega⟩⟩
   · rintro ⟨k1,k2 | ⟨k2,k3⟩⟩
     · exact .inl ⟨k1, .inl k2⟩
     · by_cases hz:z.toNat < y.2
       · exact .inl ⟨k1, .inr ⟨k2,hz⟩⟩
       · by_cases hz2:y.2 < z.toNat
         · have:=s3 z.toNat (a14.1 k1) hz2
           omega
         · exact .inr (BitVec.eq_of_toNat_eq (by omega))
theorem aym {s:AS} {k:Nat} {y:List AS × Nat} (h:UpI s k y) (hy:y.2 ≤ s.toNat) (hk:bsz (BitVec.ofNat 32 y.2) ≠ k):UpI s k (y.1,nxt y.2 s.toNat):=by
 have hn:=an1 h hy
 obtain ⟨s1,s2,s3⟩:=qa s.isLt (zw h hy)
 obtain ⟨h1,h2,h3,h4⟩:=h
 refine ⟨s2,by dsimp only;omega,h3,fun z=>?_⟩
 rw [h4]
 dsimp only
 constructor
 · rintro ⟨k1,k2⟩
   exact ⟨k1,by omega⟩
 · rintro ⟨k1,k2 | ⟨k2,k3⟩⟩
   · exact ⟨k1, .inl k2⟩
   · by_cases hz:z.toNat < y.2
     · exact ⟨k1, .inr ⟨k2,hz⟩⟩
     · by_cases hz2:y.2 < z.toNat
       · have:=s3 z.toNat (a14.1 k1) hz2
         omega
       · have e:z = BitVec.ofNat 32 y.2:=BitVec.eq_of_toNat_eq (by omega)
         exact absurd (e ▸ k2) hk
def UpK (s:AS) (k:Nat) (l:List AS):Prop:=l.length ≤ k * 4294967296 ∧ nb l ∧ ∀ z,z ∈ l ↔ sub z s ∧ bsz z < k
theorem aqm (s:AS):UpK s 0 []:=by
 refine ⟨?_,List.Pairwise.nil,fun z=>?_⟩
 · show 0 ≤ _
   exact Nat.zero_le _
 · constructor
   · intro h;cases h
   · rintro ⟨_,h⟩;omega
theorem ayc {s:AS} {k:Nat} {l:List AS} (h:UpK s k l):UpI s k (l,0):=by
 obtain ⟨h1,h2,h3⟩:=h
 unfold UpI
 dsimp only
 refine ⟨.inr (Nat.zero_and _),Nat.le_trans h1 (Nat.le_add_right _ _),h2,fun z=>?_⟩
 rw [h3]
 constructor
 · rintro ⟨a,b⟩
   exact ⟨a, .inl b⟩
 · rintro ⟨a,b | ⟨_,b⟩⟩
   · exact ⟨a,b⟩
   · exact absurd b (Nat.not_lt_zero _)
theorem axu {s:AS} {k:Nat} {y:List AS × Nat} (h:UpI s k y) (hy:¬ y.2 ≤ s.toNat):UpK s (k + 1) y.1:=by
 have h0:=atl h
 have:=s.isLt
 obtain ⟨h1,h2,h3,h4⟩:=h
 refine ⟨by rw [Nat.add_mul];omega,h3,fun z=>?_⟩
 rw [h4]
 constructor
 · rintro ⟨k1,k2⟩
   exact ⟨k1,by omega⟩
 · rintro ⟨k1,k2⟩
   have:=ajt k1
   exact ⟨k1,by omega⟩
theorem ax3 {s:AS} {k:Nat} {l:List AS} (h:UpK s k l) (hk:bsz s < k):l = vh s:=abx h.2.1 fun z=>by
 rw [h.2.2]
 exact ⟨fun h=>h.1,fun h=>⟨h,by have:=agf h;omega⟩⟩
abbrev pU (n:Nat):PC:=.one (.raw (.int .u64 (n:Int)))
abbrev vU (n:Nat):HR:=bt (.raw (.int .u64 (n:Int)))
theorem adw (n:Int):IntKind.wrap .u64 n = n % 18446744073709551616:=by
 simp [IntKind.wrap,IntKind.signed,IntKind.bits]
theorem ays {x s:Nat} (hs:s < 4294967296) (hx:x ≤ s) (h:¬ (x:Int) = s) {a:Int} (ha:a = IntKind.wrap .u64 ((x:Int) - s) ∨ a = (x:Int) - s):d4 .and .u64 a s = (nxt x s:Nat):=by
 unfold nxt
 rw [if_neg (by omega)]
 show IntKind.wrap .u64 ((BitVec.ofInt 64 a &&& BitVec.ofInt 64 s).toNat:Int) = _
 have e1:(BitVec.ofInt 64 a).toNat = 2 ^ 64 + x - s:=by
  rw [BitVec.toNat_ofInt]
  rcases ha with rfl | rfl
  · rw [adw]
    omega
  · omega
 have e2:(BitVec.ofInt 64 (s:Int)).toNat = s:=by
  rw [BitVec.toNat_ofInt]
  omega
 have h2:((2 ^ 64 + x - s) &&& s) ≤ s:=Nat.and_le_right
 rw [BitVec.toNat_and,e1,e2,adw]
 omega
theorem b0r {x s:Nat} (hs:s < 4294967296) (h:(x:Int) = s):(s:Int) + 1 = (nxt x s:Nat):=by
 unfold nxt
 rw [if_pos (by omega)]
 omega
theorem adg {x s:AS} (h:x ≠ 0):d4 .and .u32 (asI x - 1) (asI s) = asI ((x - 1) &&& s):=by rw [aem h,i6]
theorem zz {α:Type} [Inhabited α] {wr wr':Bool} {e:TypeId} {c:α → Nat → PV} {x:α} {f:Nat → Nat → PV} (h:CoP (f 0 0) (c x 0)) (hw:wr' = true → wr = true:=by exact fun h=>h):CoO (.arr wr 1 e 1 f) (.arr wr' 1 e [x].length (lf c [x])) :=
 ⟨hw,rfl,rfl,rfl,fun i j hi hj=>by
  have hi:i < 1:=hi
  have hj:j < 1:=hj
  obtain rfl:j = 0:=by omega
  obtain rfl:i = 0:=by omega
  exact h⟩
theorem xu {n:Nat} (h:n < 4294967296):(n:Int) = asI (BitVec.ofNat 32 n):=by
 unfold asI
 rw [BitVec.toNat_ofNat]
 omega
end Go.Hx
end
