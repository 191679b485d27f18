/- A part of the proof: SrW Cs10 V8 Cs11 V10 Cs13 Cs14 Cs15 V13 Cs16. -/
import Derived.Shelf.SlSortCmp.NoneTotal
import Derived.Test.YtidophngianjiaaDoorDx14
import Derived.Test.YtidophngianjiaaDoorDx16
import Derived.Test.YtidophngianjiaaDoorDx17
set_option linter.all false
section
namespace Go.Hx
open Go.Proofs Go.RowKit Go.Sort
set_option maxRecDepth 100000
theorem aav {w w':World} (h:Below w.heap.size w w'):∃ q os,w' = grow (w.drewN q) os:=by
 refine ⟨w'.drawn - w.drawn,w'.heap.extract w.heap.size w'.heap.size, ?_⟩
 have hd:=h.drawn
 obtain ⟨h1,h2,h3,h4,h5,_⟩:=h
 cases w with
 | mk hp tp dr os out =>
 cases w' with
 | mk hp' tp' dr' os' out' =>
 dsimp only at *
 subst h1 h2 h3
 unfold grow World.drewN
 simp only [World.mk.injEq,true_and,and_true]
 refine ⟨?_,by omega⟩
 apply Array.ext_getElem?
 intro k
 rw [Array.getElem?_append]
 by_cases hk:k < hp.size
 · rw [if_pos hk,h5 k hk]
 · rw [if_neg hk,Array.getElem?_extract]
   by_cases hk2:k < hp'.size
   · rw [if_pos (by omega)]
     congr 1
     omega
   · rw [if_neg (by omega),Array.getElem?_eq_none (by omega)]
theorem ab1 {α:Type} [Inhabited α] {enc:α → Value} {w:World} {g m:Nat} {d:Array α} {os:Array Obj} {cur:Array Value} {e:TypeId} {fr:Nat × Nat} (h:w.heap[g]? = some (.cells cur e fr)) :
 (sortWorld enc w g 0 m d os).heap[g]? = some (.cells (putCells enc 0 d cur) e fr):=by
 have hlt:=(Array.getElem?_eq_some_iff.1 h).1
 unfold sortWorld
 rw [heap_grow_old _ _ (by simpa using hlt)]
 unfold putRow mapBlock
 simp only [heap_ahead,Array.getElem?_modify,if_true,h]
 rfl
theorem u7 {α:Type} [Inhabited α] {enc:α → Value} {w:World} {g m:Nat} {d:Array α} {os:Array Obj} {b:Nat} (hb:b < w.heap.size) (hne:b ≠ g):(sortWorld enc w g 0 m d os).heap[b]? = w.heap[b]?:=by
 unfold sortWorld
 rw [heap_grow_old _ _ (by simpa using hb)]
 unfold putRow mapBlock
 simp only [heap_ahead,Array.getElem?_modify,if_neg (Ne.symm hne)]
theorem ab3 {α:Type} [Inhabited α] {enc:α → Value} {w:World} {g m:Nat} {d:Array α} {os:Array Obj}:Below 0 w (sortWorld enc w g 0 m d os) :=
 ⟨rfl,rfl,rfl,by unfold sortWorld;simp,fun k hk=>absurd hk (Nat.not_lt_zero k),by unfold sortWorld grow;simp⟩
theorem ahy {α:Type} [Inhabited α] {enc:α → Value} {d:Array α} {cur:Array Value} (h:d.size ≤ cur.size):(putCells enc 0 d cur).toList.take d.size = d.toList.map enc:=by
 apply List.ext_getElem?
 intro k
 rw [List.getElem?_take,List.getElem?_map,Array.getElem?_toList,Array.getElem?_toList]
 by_cases hk:k < d.size
 · rw [if_pos hk]
   unfold putCells
   rw [Array.getElem?_mapIdx,Array.getElem?_eq_getElem (by omega),Array.getElem?_eq_getElem hk]
   simp only [Option.map_some,Nat.zero_add,Nat.sub_zero]
   rw [if_pos ⟨Nat.zero_le _,hk⟩,getElem!_pos d k hk]
 · rw [if_neg hk,Array.getElem?_eq_none (by omega)]
   rfl
theorem adn {P:Program} {ρ:Go.Shelf.Ren} {α:Type} [Inhabited α] (L:SlLaysF.n6 P ρ) (enc:α → Value) (h1:∀ x,(enc x).oneCell' = true) (cf:α → α → Int) (hO:SWO (ltOf cf)) (hT:∀ x y,(ltOf cf) x y = false → (ltOf cf) y x = false → x = y)
 (g:Nat) (caps:Nat → PV) (hg:∀ args w,(callFunc g args).run P w = .ok (.enter g args) w) (hc:∀ x y,ao P g [.one (.raw (enc x)), .one (.raw (enc y))] (ay [.one (.raw (.int .i64 (cf x y)))])) (id:Nat) (e:TypeId) (l:List α) (hsz:l.length ≤ 8589934592) :
 eq P (ρ.f 6) [.one (.ref id l.length), .one (.p (.fn g 0 caps))] [(id, .arr true 1 e l.length (lf (fun x _=>.raw (enc x)) l))] (.tup [])
  [(id, .arr true 1 e l.length (lf (fun x _=>.raw (enc x)) (l.mergeSort fun x y=>!(ltOf cf) y x)))] [id]:=by
 intro w c us hM hus
 match us,hus with
 | [u,v],⟨hu,hv,_⟩ =>
  obtain ⟨cs,rfl,hcl,_⟩:=hv
  have hcs:cs = []:=List.eq_nil_of_length_eq_zero hcl
  subst hcs
  have hl1:lk [(id,ab.arr true 1 e l.length (lf (fun x _=>.raw (enc x)) l))] id = some (.arr true 1 e l.length (lf (fun x _=>.raw (enc x)) l)):=by simp [lk]
  have hu2:=(hu.2.2 _ _ _ _ hl1 rfl).2 rfl
  subst hu2
  have hob:=hM.objs id _ hl1
  obtain ⟨h0,hmax,h5⟩:=hob
  have hlen:(l.mergeSort fun x y=>!(ltOf cf) y x).length = l.length:=List.length_mergeSort _
  have hev:∀ f':Nat → Nat → PV,Evo c (lk [(id,ab.arr true 1 e l.length (lf (fun x _=>.raw (enc x)) l))]) c (lk [(id,ab.arr true 1 e l.length f')]) id:=fun f' =>
   .inr (.inr ⟨_, .arr true 1 e l.length f',1,e,l.length,l.length,hl1,rfl,by simp [lk],rfl,Nat.le_refl _,fun _=>rfl,fun _ _ _ _ _ _ _ h=>by cases h⟩)
  rcases Nat.eq_zero_or_pos l.length with hz | hpos
  ·
   have hl:l = []:=List.eq_nil_of_length_eq_zero hz
   subst hl
   have hform:∃ ad cap,c.own id = .slice ad 0 cap:=by
    rcases h5 with ⟨_,xs,h2,_⟩ | ⟨_,_,ad,cap,hv,_⟩
    · rcases h2.2 with ⟨hv,_⟩ | ⟨g,cap,cur,hv,_⟩
      · exact ⟨none,0,hv⟩
      · exact ⟨_,cap,hv⟩
    · exact ⟨ad,cap,hv⟩
   obtain ⟨ad,cap,hown⟩:=hform
   have hms:([]:List α).mergeSort (fun x y=>!(ltOf cf) y x) = []:=by simp
   rw [hown,hms]
   refine (AnyF.slices_SortFunc_none { L with } ad cap (.func (.func g) #[] #[]) w).mono ?_
   rintro e' w' ⟨rfl,rfl⟩
   exact ⟨_,c,rfl,⟨[],rfl,trivial⟩,hM,Below.refl _ _,fun _ _ _=>⟨rfl,rfl⟩,fun id0 ob b ho hb=>.inr ⟨id0,ob,ho,hb⟩,fun id0 hid=>by
    rw [List.mem_singleton.1 hid]
    exact Evo.refl _ _ _⟩
  · obtain ⟨h6,xs,h2,h4⟩:c.blk id = fj (c.own id) ∧ ∃ xs,w.ownsRow 0 e 1 (c.own id) l.length xs ∧ ∀ i j,i < l.length → j < 1 → ∃ x,xs[i * 1 + j]? = some x ∧ b5 c.imm (lf (fun x _=>.raw (enc x)) l i j) x:=by
     rcases h5 with h5 | ⟨h6 | h6,_⟩
     · exact h5
     · cases h6
     · omega
    obtain ⟨hxl,hrow⟩:=h2
    rcases hrow with ⟨_,hz⟩ | ⟨b,cap,cur,hown,hbase,hheap,hnc,hcm,hcs,htake⟩
    · omega
    have hblk:c.blk id b:=by rw [h6,hown];rfl
    have hlt:b < w.heap.size:=(Array.getElem?_eq_some_iff.1 hheap).1
    have hcell:∀ j,(hj:j < l.length) → cur[j]? = some (enc l[j]):=fun j hj=>by
     obtain ⟨x,hx,hr⟩:=h4 j 0 hj (by omega)
     rw [Nat.mul_one,Nat.add_zero,← htake,List.getElem?_take,if_pos (by omega),Array.getElem?_toList] at hx
     rw [hx]
     have hr:x = enc (l.getD j default) ∧ _:=hr
     rw [hr.1,List.getD_eq_getElem?_getD,List.getElem?_eq_getElem hj]
     rfl
    have hH:Holds enc w b 0 l.toArray:=fun j hj=>by
     have hj:j < l.length:=by simpa using hj
     rw [Nat.zero_add]
     refine ⟨?_,by simp [World.frozen?,hheap]⟩
     have:l.toArray[j]! = l[j]:=by rw [getElem!_pos l.toArray j (by simpa using hj)];simp
     rw [this]
     simp [World.cell?,hheap,hcell j hj]
    have hcmp:CmpLays1 P g #[] enc cf b 0 l.toArray.size w:=by
     intro m os dk hdk x y
     have hcimm:∀ b' ob,c.imm b' = some ob → (sortWorld enc w b 0 m dk os).heap[b']? = some ob:=fun b' ob hb'=>by
      have hne:b' ≠ b:=fun he=>by
       have:=hM.sep id _ b hl1 hblk
       rw [← he,hb'] at this
       cases this
      have hw:=hM.imm b' ob hb'
      rw [u7 (Array.getElem?_eq_some_iff.1 hw).1 hne]
      exact hw
     have h:=hc x y (sortWorld enc w b 0 m dk os) c.imm [enc x,enc y] c.tab hcimm ⟨⟨rfl,h1 x⟩,⟨rfl,h1 y⟩,trivial⟩
     refine h.mono ?_
     rintro e' w' ⟨v,imm',rfl,hr,_,_,hb⟩
     obtain ⟨q,os',hq⟩:=aav hb
     exact ⟨by rw [hr.1],q,os',hq⟩
    have hS:=Any.slices_SortFunc_total L enc h1 cf hO g #[] b 0 cap l.toArray w hg hcmp hH hlt (by rw [List.size_toArray];omega) hT
    rw [hown]
    refine Calls.mono hS ?_
    rintro e' w' ⟨rfl,m,os,rfl⟩
    generalize hSd:(l.mergeSort fun x y=>!(ltOf cf) y x) = S at *
    refine ⟨_,c,rfl,⟨[],rfl,trivial⟩,⟨fun id0 ob ho=>?_,fun id0 id1 ob0 ob1 b' ho0 ho1 _ _=>(wk ho0).1.trans (wk ho1).1.symm,fun b' ob hb'=>?_,fun id0 ob b' ho hb'=>?_⟩,ab3,
     fun b' hb' hno=>⟨u7 hb' (fun he=>hno id _ hl1 (by rw [he];exact hblk)),rfl⟩,fun id0 ob b' ho hb'=>.inr ⟨id,_,hl1,by rw [← (wk ho).1];exact hb'⟩,fun id0 hid=>by
      rw [List.mem_singleton.1 hid]
      exact hev _⟩
    · obtain ⟨rfl,rfl⟩:=wk ho
      refine ⟨h0,hmax, .inl ⟨h6,S.map enc,⟨by simp [hlen], .inr ⟨b,cap,putCells enc 0 S.toArray cur,hown,hbase,ab1 hheap,hnc,hcm,by simpa [putCells] using hcs, ?_⟩⟩,fun i j hi hj=>?_⟩⟩
      · have:=ahy (enc:=enc) (d:=S.toArray) (cur:=cur) (by rw [List.size_toArray,hlen,hcs];omega)
        rw [List.size_toArray,hlen] at this
        rw [Nat.mul_one]
        exact this
      · obtain rfl:j = 0:=by omega
        have hi':i < S.length:=by rw [hlen];exact hi
        refine ⟨enc S[i], ?_, ?_⟩
        · rw [Nat.mul_one,Nat.add_zero,List.getElem?_map,List.getElem?_eq_getElem hi']
          rfl
        · show b5 c.imm (.raw (enc (S.getD i default))) _
          rw [List.getD_eq_getElem?_getD,List.getElem?_eq_getElem hi']
          exact ⟨rfl,h1 _⟩
    · have hne:b' ≠ b:=fun he=>by
       have:=hM.sep id _ b hl1 hblk
       rw [← he,hb'] at this
       cases this
      have hw:=hM.imm b' ob hb'
      rw [u7 (Array.getElem?_eq_some_iff.1 hw).1 hne]
      exact hw
    · have:=(wk ho).1
      subst this
      exact hM.sep id0 _ b' hl1 hb'
 | [],h=>exact h.elim
 | [_],⟨_,h⟩=>exact h.elim
 | _ :: _ :: _ :: _,⟨_,_,h⟩=>exact h.elim
theorem tg {a b:AS}:ltOf v7 a b = bef a b:=ajt
theorem ai4:SWO (ltOf v7) where
 irrefl x:=by rw [tg];exact ss x
 trans x y z h k:=by rw [tg] at *;exact l6 h k
 ntrans x y z h k:=by
  rw [tg] at *
  rw [Bool.eq_false_iff,ne_eq,ik] at *
  omega
def srt (l:List AS):List AS:=l.mergeSort fun x y=>!bef y x
theorem ap2:al Tryd.prog 38:=⟨Tryd.f38,Tryd.func38,by kernel_rfl,by kernel_rfl⟩
theorem arc (id:Nat) (caps:Nat → PV) (l:List AS) (hsz:l.length ≤ 8589934592):eq Tryd.prog 38 [.one (.ref id l.length), .one (.p (.fn 39 0 caps))] [(id, .arr true 1 34 l.length (lf sC l))] (.tup [])
 [(id, .arr true 1 34 l.length (lf sC (srt l)))] [id]:=by
 have h:=adn Tryd.laysSort (fun s:AS=>.int .u32 (asI s)) (fun _=>rfl) v7 ai4 (fun x y h k=>by
  rw [tg] at h k
  apply Classical.byContradiction
  intro hne
  rcases xo hne with h2 | h2
  · rw [h] at h2;cases h2
  · rw [k] at h2;cases h2) 39 caps (enters_of Tryd.func39 (by kernel_rfl) rfl) (fun x y=>ag7 x y) id 34 l hsz
 have e:(fun x y:AS=>!(ltOf v7) y x) = fun x y=>!bef y x:=by
  funext x y
  rw [tg]
 rw [e] at h
 exact h
theorem anc {l:List AS} {x:AS}:x ∈ srt l ↔ x ∈ l:=by unfold srt;exact List.mem_mergeSort
theorem aa8 (l:List AS):(srt l).length = l.length:=List.length_mergeSort _
theorem w7:∀ {l:List AS} {p:Option AS},l.Pairwise (fun a b=>bef b a = false) → (∀ x,p = some x → ∀ y ∈ l,bef y x = false) → (j4 p l).Pairwise (fun a b=>bef a b = true) ∧ ∀ x,p = some x → ∀ y ∈ j4 p l,bef x y = true
 | [],p,_,_=>⟨by simp [j4],fun x _ y hy=>by simp [j4] at hy⟩
 | z :: l,p,h,hp=>by
  obtain ⟨h1,h2⟩:=List.pairwise_cons.1 h
  simp only [j4]
  split
  · rename_i e
    subst e
    exact w7 h2 fun x hx y hy=>hp x hx y (List.mem_cons_of_mem _ hy)
  · rename_i hne
    obtain ⟨q1,q2⟩:=w7 (p:=some z) h2 fun x hx y hy=>by
     simp only [Option.some.injEq] at hx
     subst hx
     exact h1 y hy
    refine ⟨List.pairwise_cons.2 ⟨fun y hy=>q2 z rfl y hy,q1⟩,fun x hx y hy=>?_⟩
    have hxz:bef x z = true:=by
     have h3:=hp x hx z List.mem_cons_self
     rcases xo (a:=x) (b:=z) (fun e=>hne (by rw [hx,e])) with h4 | h4
     · exact h4
     · rw [h3] at h4;cases h4
    rcases List.mem_cons.1 hy with rfl | hy
    · exact hxz
    · exact l6 hxz (q2 z rfl y hy)
theorem ake (l:List AS):ml (srt l) = ord l:=by
 refine af2 (w7 ?_ fun x hx=>by cases hx).1 fun z=>by rw [ajz,anc]
 have h:=List.pairwise_mergeSort (le:=fun x y:AS=>!bef y x) (fun a b c h k=>by
  simp only [Bool.not_eq_true'] at *
  rw [Bool.eq_false_iff,ne_eq,ik] at *
  omega) (fun a b=>by
  simp only [Bool.or_eq_true,Bool.not_eq_true']
  rw [Bool.eq_false_iff,Bool.eq_false_iff,ne_eq,ne_eq,ik,ik]
  omega) l
 refine h.imp fun {a b} hab=>?_
 simpa using hab
end Go.Hx
end
section
namespace Go.Hx
abbrev vB (b:Bool):HR:=bd (.raw (.bool b))
abbrev bx (a:PV):PV:=.vp 1 fun j=>[a].getD j .any
def nc (W:AS → AS → Bool) (l:List AS) (x:AS):Bool:=l.any fun b=>decide (x ≠ b) && W x b
def a1d (W:AS → AS → Bool) (l:List AS):List AS:=(ord l).filter fun x=>!nc W (ord l) x
def mq (a b:AS):Bool:=decide (sub a b)
def a05 (l:List AS):List AS:=a1d mq l
theorem w6 (l:List AS):(ord l).Nodup:=(en l).imp fun {a b} h e=>by
 subst e
 rw [ss] at h
 cases h
def okT (l:List AS) (i k:Nat):Bool:=(List.range k).all fun j=>decide (j = i) || !mq (l.getD i default) (l.getD j default)
def atd (l:List AS) (i:Nat):List AS:=((ord l).take i).filter fun x=>!nc mq (ord l) x
end Go.Hx
end
section
namespace Go.Hx
open Go.Proofs
set_option maxRecDepth 100000
theorem a10:al Tryd.prog 22:=⟨Tryd.f22,Tryd.func22,by kernel_rfl,by kernel_rfl⟩
theorem a1j (l:List AS) (hl:l.length ≤ 8589934592):ao Tryd.prog 22 [pP (asl l)] (ay [pP (asl (ord l))]):=by
 refine am (nt:=10) ai Tryd.func22 rfl rfl l9 ?_;refine sx7 ?_;refine qy ?_;refine a6 ?_;refine sx7 ?_;refine qy ?_
 refine dn rfl rfl rfl rfl rfl rfl aeu (a9r l.length false (lf sC l) (by omega)) (fh.refl _) trivial rfl rfl ?_;refine qy ?_;refine a6 ?_;refine sx7 ?_;refine qy ?_
 refine dn rfl rfl rfl rfl rfl rfl ap2 (arc 0 _ l hl) (fh.refl _) ⟨u9,trivial⟩ rfl rfl ?_;refine a6 ?_;refine sx7 ?_;refine qy ?_
 refine dn rfl rfl rfl rfl rfl rfl api ((ajm (srt l)).swap 900 0) (⟨congrArg (HV.ref 0) (aa8 l).symm,trivial⟩) ⟨⟨_,rfl,yl rfl (aa8 l).symm⟩,trivial⟩ rfl rfl ?_;refine qy ?_;refine a6 ?_
 exact hx8 rfl rfl rfl (⟨CoC.one (CoP.of_eq (by rw [ake])),trivial⟩)
theorem aou:al Tryd.prog 68:=⟨Tryd.f68,Tryd.func68,by kernel_rfl,by kernel_rfl⟩
theorem ana (b x:AS) (g k:Nat) (caps:Nat → PV) (W:AS → AS → Bool) (hg:al Tryd.prog g) (hW:∀ x y,ao Tryd.prog g (pA x :: pA y :: i9 caps k 0) (ay [pB (W x y)])):ao Tryd.prog 68 [pA b,pP (bx (asC x)),pP (bx (.fn g k caps))] (ay [pB (decide (x ≠ b) && W x b)]):=by
 refine am (nt:=14) ai Tryd.func68 rfl rfl l9 ?_;refine sx7 ?_;refine qy ?_;refine a6 ?_;refine sx7 ?_;(iterate 4 refine qy ?_);refine ct rfl rfl (fun r0=>?_) (fun r0=>?_)
 ·
  have h0:=r0
  have h0:=of_decide_eq_false (cb h0)
  try simp only [ty] at h0
  (iterate 3 refine qy ?_ (hg:=(gtt r0)));refine rc rfl rfl rfl rfl rfl rfl hg (hW x b) (CoL.refl _) rfl (gtt r0) ?_;(iterate 2 refine qy ?_);refine a6 ?_
  exact hx8 rfl rfl rfl (⟨ccb (by simp_all [dt]),trivial⟩)
 ·
  have h0:=r0
  have h0:=of_decide_eq_true (ce h0)
  try simp only [ty] at h0
  (iterate 4 refine k9 (gft r0) ?_);refine rq rfl rfl rfl rfl rfl ?_ (hp:=r0);refine qy ?_;refine a6 ?_
  exact hx8 rfl rfl rfl (⟨ccb (by simp_all [dt]),trivial⟩)
theorem ao0:al Tryd.prog 66:=⟨Tryd.f66,Tryd.func66,by kernel_rfl,by kernel_rfl⟩
theorem aof (x:AS) (l:List AS) (g k:Nat) (caps:Nat → PV) (W:AS → AS → Bool) (hg:al Tryd.prog g) (hW:∀ x y,ao Tryd.prog g (pA x :: pA y :: i9 caps k 0) (ay [pB (W x y)])):ao Tryd.prog 66 [pA x,pP (bx (asl l)),pP (bx (.fn g k caps))] (ay [pB (nc W l x)]):=by
 refine am (nt:=8) ai Tryd.func66 rfl rfl l9 ?_;refine sx7 ?_;refine m9 0 ?_;refine qy ?_;refine a6 ?_;refine a7 ?_;refine ko 3 rfl rfl rfl ?_;refine gy ?_;(iterate 2 refine qy ?_)
 refine rc rfl rfl rfl rfl rfl rfl ap3 (aqo l 68 2 (fun i=>[bx (asC x),bx (.fn g k caps)].getD i .any) (fun b=>decide (x ≠ b) && W x b) aou (fun b=>ana b x g k caps W hg hW)) (CoL.refl _) rfl rfl ?_;refine qy ?_
 refine a6 ?_
 exact hx8 rfl rfl rfl (CoL.refl _)
theorem ap5:al Tryd.prog 51:=⟨Tryd.f51,Tryd.func51,by kernel_rfl,by kernel_rfl⟩
theorem aqr (l:List AS) (hl:l.length ≤ 8589934592) (g k:Nat) (caps:Nat → PV) (W:AS → AS → Bool) (hg:al Tryd.prog g) (hW:∀ x y,ao Tryd.prog g (pA x :: pA y :: i9 caps k 0) (ay [pB (W x y)])):ao Tryd.prog 51 [pP (asl l),pP (.fn g k caps)] (ay [pP (asl (a1d W l))]):=by
 refine am (nt:=12) ai Tryd.func51 rfl rfl l9 ?_;refine sx7 ?_;refine m9 2 ?_;refine qy ?_;refine a6 ?_;refine sx7 ?_;refine qy ?_
 refine rc rfl rfl rfl rfl rfl rfl a10 (a1j l hl) (CoL.refl _) rfl rfl ?_;refine m9 3 ?_;refine s9 ?_;refine a6 ?_;refine a7 ?_;refine ko 5 rfl rfl rfl ?_;refine ko 3 rfl rfl rfl ?_
 refine gy ?_;refine qy ?_;refine dn rfl rfl rfl rfl rfl rfl aeu (a9r (ord l).length false (lf sC (ord l)) (Nat.le_trans (md l) (by omega))) (fh.refl _) trivial rfl rfl ?_;refine qy ?_
 refine dn rfl rfl rfl rfl rfl rfl aqb ((arn (ord l) 66 2 (fun i=>[bx (asl (ord l)),bx (.fn g k caps)].getD i .any) (nc W (ord l)) ao0 (fun x=>aof x (ord l) g k caps W hg hW)).swap 900 0) (fh.refl _) ⟨u9,trivial⟩ rfl rfl ?_
 refine qy ?_;refine a6 ?_
 exact hx8 rfl rfl rfl (CoL.refl _)
theorem aoo:al Tryd.prog 52:=⟨Tryd.f52,Tryd.func52,by kernel_rfl,by kernel_rfl⟩
theorem aqv (a b:AS):ao Tryd.prog 52 [pA a,pA b] (ay [pB (mq a b)]):=by
 refine am (nt:=9) ai Tryd.func52 rfl rfl l9 ?_;refine sx7 ?_;refine qy ?_;refine a6 ?_;refine sx7 ?_;(iterate 5 refine qy ?_);refine a6 ?_
 exact hx8 rfl rfl rfl (⟨ccb (decide_eq_decide.2 a8m),trivial⟩)
theorem apw:al Tryd.prog 32:=⟨Tryd.f32,Tryd.func32,by kernel_rfl,by kernel_rfl⟩
theorem ah2 (l:List AS) (hl:l.length ≤ 8589934592):ao Tryd.prog 32 [pP (asl l)] (ay [pP (asl (a05 l))]):=by
 refine am (nt:=5) ai Tryd.func32 rfl rfl l9 ?_;refine sx7 ?_;refine qy ?_;refine a6 ?_;refine sx7 ?_;refine qy ?_
 refine rc rfl rfl rfl rfl rfl rfl ap5 (aqr l hl 52 0 _ mq aoo (fun a b=>aqv a b)) (CoL.refl _) rfl rfl ?_;refine qy ?_;refine a6 ?_
 exact hx8 rfl rfl rfl (CoL.refl _)
end Go.Hx
end
section
namespace Go.Hx
def ale (l:List Fd):List Fd:=l.foldl (fun o x=>if x ∈ o then o else o ++ [x]) []
def atj (l:List Fd) (i k:Nat):Bool:=(l.take k).any fun x=>decide (x = l.getD i default)
def ad1 (f:Fd):List Fd:=(bi (f.rhs &&& ~~~f.lhs)).map fun a=>(⟨f.lhs,(1:AS) <<< a⟩:Fd)
def a60 (l:List Fd):List Fd:=(l.map ad1).flatten
def at4 (l:List Fd) (i k:Nat):List Fd:=a60 (l.take i) ++ (ad1 (l.getD i default)).take k
theorem a7e (s:AS):(bi s).length ≤ 32:=by rw [← l7];exact a5q s
def exB (l:List Fd) (x:Fd) (a:Nat):Bool:=imp l ⟨x.lhs &&& ~~~((1:AS) <<< a),x.rhs⟩
def a9i (l:List Fd) (i:Nat):List Fd:=l.take i ++ l.drop (i + 1)
def ass (l:List Fd) (i:Nat):Bool:=imp (a9i l i) (l.getD i default)
end Go.Hx
end
section
namespace Go.Hx
open Go.Proofs
set_option maxRecDepth 100000
def rwC (l:List Fd):Nat → PV
 | 0=>fdl l
 | _=>.any
abbrev aub (ls:List (List Fd)):PV:=psl 1 rwC ls
end Go.Hx
end
section
namespace Go.Hx
def at5 (l:List Fd) (i k:Nat):List Fd:=a60 (l.take i) ++ (kg ((l.getD i default).rhs &&& ~~~(l.getD i default).lhs) k).map fun a=>(⟨(l.getD i default).lhs,(1:AS) <<< a⟩:Fd)
def asg (x:Fd) (a:Nat):Fd:=⟨x.lhs &&& ~~~((1:AS) <<< a),x.rhs⟩
def ah6 (i:Nat) (l:List Fd) (a:Nat):List Fd:=if i7 (l.getD i default).lhs a && exB l (l.getD i default) a then l.set i (asg (l.getD i default) a) else l
def aus (l:List Fd) (i k:Nat):List Fd:=((bi (l.getD i default).lhs).take k).foldl (ah6 i) l
def asw (l:List Fd) (i:Nat):List Fd:=(bi (l.getD i default).lhs).foldl (ah6 i) l
def asx (l:List Fd) (i:Nat):List Fd:=(List.range i).foldl asw l
def abm:Nat → List Fd → Nat → List Fd
 | 0,l,_=>l
 | f + 1,l,i=>if i < l.length then (if ass l i then abm f (a9i l i) i else abm f l (i + 1)) else l
def spl (l:List Fd):List Fd:=ale (a60 l)
def af9 (l:List Fd):List Fd:=ale (asx (spl l) (spl l).length)
def asy (l:List Fd):List Fd:=abm (af9 l).length (af9 l) 0
def ato (t:AS) (l:List Fd):Prop:=∀ x ∈ l,sub x.lhs t
end Go.Hx
end
section
namespace Go.Hx
def abl (n:Int) (l:List Fd):List Fd:=if cu n l = 0 then asy l else []
theorem a7r {s:Nat} {cl:Bool} {f:Nat → Nat → PV} {L:List AS} (h:L = []):CoP (.sl 0 s cl f) (asl L):=by subst h;exact aqe
def au0 (l:List Fd) (i k:Nat):List Fd:=(List.range k).foldl (ah6 i) l
end Go.Hx
end
section
namespace Go.Hx
theorem uq (a b:Nat):a &&& b = 2 * (a / 2 &&& b / 2) + (a % 2 &&& b % 2):=by
 have h1:=Nat.div_add_mod (a &&& b) 2
 have h2:(a &&& b) % 2 = a % 2 &&& b % 2:=by
  have:=Nat.and_mod_two_pow (a:=a) (b:=b) (n:=1)
  simpa using this
 rw [Nat.and_div_two,h2] at h1
 exact h1.symm
theorem a3a (a b:Nat):(a % 2 &&& b % 2) = if a % 2 = 1 ∧ b % 2 = 1 then 1 else 0:=by
 rcases Nat.mod_two_eq_zero_or_one a with h | h <;> rcases Nat.mod_two_eq_zero_or_one b with k | k <;> rw [h,k] <;> rfl
theorem wl {x s:Nat} (h:x &&& s = x):(x / 2 &&& s / 2 = x / 2) ∧ (x % 2 = 1 → s % 2 = 1):=by
 have h1:=uq x s
 rw [h,a3a] at h1
 split at h1 <;> rename_i hc
 · exact ⟨by omega,fun _=>hc.2⟩
 · exact ⟨by omega,fun hx=>by omega⟩
theorem a5c:∀ (x s z:Nat),x &&& s = x → z &&& s = z → z < x → z ≤ ((x - 1) &&& s):=by
 intro x
 induction x using Nat.strongRecOn with
 | _ x ih =>
  intro s z hx hz hlt
  obtain ⟨x1,x2⟩:=wl hx
  obtain ⟨z1,z2⟩:=wl hz
  rw [uq (x - 1) s,a3a]
  rcases Nat.mod_two_eq_zero_or_one x with hb | hb
  · have e1:(x - 1) / 2 = x / 2 - 1:=by omega
    have e2:(x - 1) % 2 = 1:=by omega
    have:=ih (x / 2) (by omega) (s / 2) (z / 2) x1 z1 (by omega)
    rw [e1,e2]
    by_cases hs:s % 2 = 1
    · rw [if_pos ⟨rfl,hs⟩];omega
    · rw [if_neg (fun h=>hs h.2)]
      have:z % 2 = 0:=by omega
      omega
  · have e1:(x - 1) / 2 = x / 2:=by omega
    have e2:(x - 1) % 2 = 0:=by omega
    rw [e1,e2,x1,if_neg (by omega)]
    omega
theorem a9j:∀ (w y s:Nat),y &&& s = y → s < 2 ^ w → ((2 ^ w - 1 - y) &&& s) = s - y:=by
 intro w
 induction w with
 | zero=>intro y s h hs;obtain rfl:s = 0:=(by simpa using hs);simp
 | succ w ih =>
  intro y s h hs
  obtain ⟨y1,y2⟩:=wl h
  have hle:y ≤ s:=by rw [← h];exact Nat.and_le_right
  rw [Nat.pow_succ] at hs ⊢
  have hp:=Nat.two_pow_pos w
  have:=ih (y / 2) (s / 2) y1 (by omega)
  have hle2:y / 2 ≤ s / 2:=by omega
  rw [uq,a3a,show (2 ^ w * 2 - 1 - y) / 2 = 2 ^ w - 1 - y / 2 by omega,this]
  split <;> omega
theorem ace {y s:Nat} (h:y &&& s = y):(s - y) &&& s = s - y:=by
 rw [← a9j s y s h Nat.lt_two_pow_self,Nat.and_assoc,Nat.and_self]
theorem amw {w x s:Nat} (hx:x &&& s = x) (hs:s < 2 ^ w) (hne:x < s):((2 ^ w + x - s) &&& s) = s - ((s - x - 1) &&& s):=by
 have h1:((s - x - 1) &&& s) &&& s = (s - x - 1) &&& s:=by rw [Nat.and_assoc,Nat.and_self]
 rw [← a9j w _ s h1 hs]
 have hp:=Nat.two_pow_pos w
 apply Nat.eq_of_testBit_eq
 intro i
 have hlt:s - x - 1 < 2 ^ w:=by omega
 have hlt2:((s - x - 1) &&& s) < 2 ^ w:=Nat.lt_of_le_of_lt Nat.and_le_left hlt
 rw [Nat.testBit_and,Nat.testBit_and,show 2 ^ w + x - s = 2 ^ w - (s - x - 1 + 1) by omega,Nat.testBit_two_pow_sub_succ hlt,show 2 ^ w - 1 - ((s - x - 1) &&& s) = 2 ^ w - (((s - x - 1) &&& s) + 1) by omega,Nat.testBit_two_pow_sub_succ hlt2,Nat.testBit_and]
 cases s.testBit i <;> simp
theorem a6s {w x s z:Nat} (hx:x &&& s = x) (hs:s < 2 ^ w) (hz:z &&& s = z) (hlt:x < z):((2 ^ w + x - s) &&& s) ≤ z ∧ x < ((2 ^ w + x - s) &&& s):=by
 have hzs:z ≤ s:=by rw [← hz];exact Nat.and_le_right
 rw [amw hx hs (by omega)]
 have h1:=a5c (s - x) s (s - z) (ace hx) (ace hz) (by omega)
 have h2:((s - x - 1) &&& s) ≤ s - x - 1:=Nat.and_le_left
 omega
theorem vn {z s:AS}:sub z s ↔ z.toNat &&& s.toNat = z.toNat:=by
 rw [← BitVec.toNat_and,BitVec.toNat_inj,ar]
 constructor
 · intro h
   apply BitVec.eq_of_getLsbD_eq
   intro k hk
   rw [BitVec.getLsbD_and]
   cases hz:z.getLsbD k with
   | false=>rfl
   | true=>rw [h k hk hz];rfl
 · intro h i _ hi
   rw [← h,BitVec.getLsbD_and] at hi
   simp at hi
   exact hi.2
theorem a9b {z s:AS} (h:sub z s):bsz z ≤ bsz s:=by
 unfold bsz
 apply List.countP_mono_left
 intro i hi hb
 exact ar.1 h i (List.mem_range.1 hi) hb
def tv (s:AS):Nat → AS → List AS
 | 0,_=>[]
 | n + 1,x=>x :: if x = 0 then [] else tv s n ((x - 1) &&& s)
theorem a62 {x:AS} (h:x ≠ 0):(x - 1).toNat = x.toNat - 1:=by
 have h0:x.toNat ≠ 0:=fun e=>h (BitVec.eq_of_toNat_eq e)
 have:=x.isLt
 rw [BitVec.toNat_sub]
 show (2 ^ 32 - 1 + x.toNat) % 2 ^ 32 = _
 omega
theorem a0v {x s:AS}:sub ((x - 1) &&& s) s:=by
 rw [vn,BitVec.toNat_and,Nat.and_assoc,Nat.and_self]
theorem te {x s:AS} (h:x ≠ 0):((x - 1) &&& s).toNat < x.toNat:=by
 have h0:x.toNat ≠ 0:=fun e=>h (BitVec.eq_of_toNat_eq e)
 rw [BitVec.toNat_and,a62 h]
 have:((x.toNat - 1) &&& s.toNat) ≤ x.toNat - 1:=Nat.and_le_left
 omega
theorem a59 {x s z:AS} (hx:sub x s) (hz:sub z s) (h:z.toNat < x.toNat):z.toNat ≤ ((x - 1) &&& s).toNat:=by
 have h0:x ≠ 0:=fun e=>by subst e;exact absurd h (Nat.not_lt_zero _)
 rw [BitVec.toNat_and,a62 h0]
 exact a5c _ _ _ (vn.1 hx) (vn.1 hz) h
theorem a74 {s:AS}:∀ (n:Nat) (x:AS),sub x s → x.toNat < n → ∀ z,z ∈ tv s n x ↔ sub z s ∧ z.toNat ≤ x.toNat
 | 0,x,_,h,z=>absurd h (Nat.not_lt_zero _)
 | n + 1,x,hx,h,z=>by
  unfold tv
  by_cases h0:x = 0
  · rw [if_pos h0,List.mem_singleton]
    subst h0
    constructor
    · rintro rfl;exact ⟨hx,Nat.le_refl _⟩
    · rintro ⟨_,h⟩
      exact BitVec.eq_of_toNat_eq (Nat.le_antisymm h (Nat.zero_le _))
  · rw [if_neg h0,List.mem_cons,a74 n _ a0v (by have:=te (s:=s) h0;omega)]
    constructor
    · rintro (rfl | ⟨h1,h2⟩)
      · exact ⟨hx,Nat.le_refl _⟩
      · have:=te (s:=s) h0
        exact ⟨h1,by omega⟩
    · rintro ⟨h1,h2⟩
      by_cases he:z = x
      · exact .inl he
      · have hne:z.toNat ≠ x.toNat:=fun e=>he (BitVec.eq_of_toNat_eq e)
        exact .inr ⟨h1,a59 hx h1 (by omega)⟩
def rg (s:AS):List AS:=ord (tv s (s.toNat + 1) s)
theorem sub_self (s:AS):sub s s:=by rw [vn,Nat.and_self]
theorem abp {z s:AS} (h:sub z s):z.toNat ≤ s.toNat:=by rw [← vn.1 h];exact Nat.and_le_right
theorem a49 {s z:AS}:z ∈ rg s ↔ sub z s:=by
 unfold rg
 rw [i6,a74 _ _ (sub_self s) (Nat.lt_succ_self _)]
 exact ⟨fun h=>h.1,fun h=>⟨h,abp h⟩⟩
theorem a6x {l:List AS} {s:AS} (ho:jv l) (h:∀ z,z ∈ l ↔ sub z s):l = rg s:=kd ho (en _) fun z=>by rw [h z];exact a49.symm
def bg (s:AS):List AS:=if 12 < bsz s then [] else rg s
theorem a9v {s:AS} (h:(12:Int) < bsz s):bg s = []:=if_pos (by omega)
theorem aab {s:AS} (h:¬ (12:Int) < bsz s):bg s = rg s:=if_neg (by omega)
def a12 (s:AS) (y:List AS × AS):Prop:=sub y.2 s ∧ y.1.length + y.2.toNat ≤ s.toNat + 1 ∧ ∀ z,z ∈ y.1 ↔ sub z s ∧ y.2.toNat ≤ z.toNat
theorem adj (s:AS):a12 s ([s],s):=⟨sub_self s,by simp only [List.length_singleton];omega,fun z=>by
 rw [List.mem_singleton]
 constructor
 · rintro rfl;exact ⟨sub_self _,Nat.le_refl _⟩
 · rintro ⟨h1,h2⟩;exact BitVec.eq_of_toNat_eq (Nat.le_antisymm (abp h1) h2)⟩
theorem af4 {s:AS} {y:List AS × AS} (h:a12 s y) (h0:y.2 ≠ 0):a12 s (y.1 ++ [(y.2 - 1) &&& s],(y.2 - 1) &&& s):=by
 obtain ⟨h1,h2,h3⟩:=h
 have hl:=te (s:=s) h0
 refine ⟨a0v,by simp only [List.length_append,List.length_singleton];omega,fun z=>?_⟩
 rw [List.mem_append,List.mem_singleton,h3]
 constructor
 · rintro (⟨k1,k2⟩ | rfl)
   · exact ⟨k1,by dsimp only;omega⟩
   · exact ⟨a0v,Nat.le_refl _⟩
 · rintro ⟨k1,k2⟩
   dsimp only at k2
   by_cases hz:y.2.toNat ≤ z.toNat
   · exact .inl ⟨k1,hz⟩
   · have:=a59 h1 k1 (by omega)
     exact .inr (BitVec.eq_of_toNat_eq (by omega))
theorem ahn {s:AS} {y:List AS × AS} (h:a12 s y) (h0:y.2 = 0):ord y.1 = rg s:=a6x (en _) fun z=>by
 rw [i6,h.2.2,h0]
 exact ⟨fun h=>h.1,fun h=>⟨h,Nat.zero_le _⟩⟩
def nxt (x s:Nat):Nat:=if x = s then s + 1 else ((2 ^ 64 + x - s) &&& s)
def UpI (s:AS) (k:Nat) (y:List AS × Nat):Prop :=
 (y.2 = s.toNat + 1 ∨ y.2 &&& s.toNat = y.2) ∧ y.1.length ≤ k * 4294967296 + y.2 ∧ jv y.1 ∧ ∀ z,z ∈ y.1 ↔ sub z s ∧ (bsz z < k ∨ bsz z = k ∧ z.toNat < y.2)
theorem mc {x s:Nat} (hs:s < 2 ^ 32) (hx:x &&& s = x):x < nxt x s ∧ (nxt x s = s + 1 ∨ nxt x s &&& s = nxt x s) ∧ ∀ z,z &&& s = z → x < z → nxt x s ≤ z:=by
 have hle:x ≤ s:=by rw [← hx];exact Nat.and_le_right
 have hs':s < 2 ^ 64:=Nat.lt_trans hs (by decide)
 unfold nxt
 by_cases he:x = s
 · rw [if_pos he]
   refine ⟨by omega, .inl rfl,fun z hz hlt=>?_⟩
   have:z ≤ s:=by rw [← hz];exact Nat.and_le_right
   omega
 · rw [if_neg he]
   refine ⟨(a6s hx hs' (Nat.and_self s) (by omega)).2, .inr (by rw [Nat.and_assoc,Nat.and_self]),fun z hz hlt=>(a6s hx hs' hz hlt).1⟩
theorem ux {s:AS} {k:Nat} {y:List AS × Nat} (h:UpI s k y) (hy:y.2 ≤ s.toNat):y.2 &&& s.toNat = y.2:=by
 rcases h.1 with h | h
 · omega
 · exact h
theorem al1 {s:AS} {k:Nat} {y:List AS × Nat} (h:UpI s k y):y.2 ≤ s.toNat + 1:=by
 rcases h.1 with h | h
 · omega
 · have:y.2 ≤ s.toNat:=by rw [← h];exact Nat.and_le_right
   omega
theorem aeb {s:AS} {k:Nat} {y:List AS × Nat} (h:UpI s k y) (hy:y.2 ≤ s.toNat):(BitVec.ofNat 32 y.2).toNat = y.2:=by
 have:=s.isLt
 rw [BitVec.toNat_ofNat,Nat.mod_eq_of_lt (by omega)]
theorem aon {s:AS} {k:Nat} {y:List AS × Nat} (h:UpI s k y) (hy:y.2 ≤ s.toNat) (hk:bsz (BitVec.ofNat 32 y.2) = k):UpI s k (y.1 ++ [BitVec.ofNat 32 y.2],nxt y.2 s.toNat):=by
 have hn:=aeb h hy
 obtain ⟨s1,s2,s3⟩:=mc s.isLt (ux h hy)
 have hsub:sub (BitVec.ofNat 32 y.2) s:=vn.2 (by rw [hn];exact ux h hy)
 obtain ⟨h1,h2,h3,h4⟩:=h
 refine ⟨s2,by simp only [List.length_append,List.length_singleton];omega, ?_,fun z=>?_⟩
 · refine List.pairwise_append.2 ⟨h3,List.pairwise_singleton _ _,fun a ha b hb=>?_⟩
   rw [List.mem_singleton] at hb
   subst hb
   rw [ik]
   have:=((h4 a).1 ha).2
   omega
 · rw [List.mem_append,List.mem_singleton,h4]
   dsimp only
   constructor
   · rintro (⟨k1,k2⟩ | rfl)
     · exact ⟨k1,by omega⟩
     · exact ⟨hsub, .inr ⟨hk,by omega⟩⟩
   · rintro ⟨k1,k2 | ⟨k2,k3⟩⟩
     · exact .inl ⟨k1, .inl k2⟩
     · by_cases hz:z.toNat < y.2
       · exact .inl ⟨k1, .inr ⟨k2,hz⟩⟩
       · by_cases hz2:y.2 < z.toNat
         · have:=s3 z.toNat (vn.1 k1) hz2
           omega
         · exact .inr (BitVec.eq_of_toNat_eq (by omega))
theorem aq0 {s:AS} {k:Nat} {y:List AS × Nat} (h:UpI s k y) (hy:y.2 ≤ s.toNat) (hk:bsz (BitVec.ofNat 32 y.2) ≠ k):UpI s k (y.1,nxt y.2 s.toNat):=by
 have hn:=aeb h hy
 obtain ⟨s1,s2,s3⟩:=mc s.isLt (ux h hy)
 obtain ⟨h1,h2,h3,h4⟩:=h
 refine ⟨s2,by dsimp only;omega,h3,fun z=>?_⟩
 rw [h4]
 dsimp only
 constructor
 · rintro ⟨k1,k2⟩
   exact ⟨k1,by omega⟩
 · rintro ⟨k1,k2 | ⟨k2,k3⟩⟩
   · exact ⟨k1, .inl k2⟩
   · by_cases hz:z.toNat < y.2
     · exact ⟨k1, .inr ⟨k2,hz⟩⟩
     · by_cases hz2:y.2 < z.toNat
       · have:=s3 z.toNat (vn.1 k1) hz2
         omega
       · have e:z = BitVec.ofNat 32 y.2:=BitVec.eq_of_toNat_eq (by omega)
         exact absurd (e ▸ k2) hk
def UpK (s:AS) (k:Nat) (l:List AS):Prop:=l.length ≤ k * 4294967296 ∧ jv l ∧ ∀ z,z ∈ l ↔ sub z s ∧ bsz z < k
theorem aiw (s:AS):UpK s 0 []:=by
 refine ⟨?_,List.Pairwise.nil,fun z=>?_⟩
 · show 0 ≤ _
   exact Nat.zero_le _
 · constructor
   · intro h;cases h
   · rintro ⟨_,h⟩;omega
theorem ao7 {s:AS} {k:Nat} {l:List AS} (h:UpK s k l):UpI s k (l,0):=by
 obtain ⟨h1,h2,h3⟩:=h
 unfold UpI
 dsimp only
 refine ⟨.inr (Nat.zero_and _),Nat.le_trans h1 (Nat.le_add_right _ _),h2,fun z=>?_⟩
 rw [h3]
 constructor
 · rintro ⟨a,b⟩
   exact ⟨a, .inl b⟩
 · rintro ⟨a,b | ⟨_,b⟩⟩
   · exact ⟨a,b⟩
   · exact absurd b (Nat.not_lt_zero _)
theorem ang {s:AS} {k:Nat} {y:List AS × Nat} (h:UpI s k y) (hy:¬ y.2 ≤ s.toNat):UpK s (k + 1) y.1:=by
 have h0:=al1 h
 have:=s.isLt
 obtain ⟨h1,h2,h3,h4⟩:=h
 refine ⟨by rw [Nat.add_mul];omega,h3,fun z=>?_⟩
 rw [h4]
 constructor
 · rintro ⟨k1,k2⟩
   exact ⟨k1,by omega⟩
 · rintro ⟨k1,k2⟩
   have:=abp k1
   exact ⟨k1,by omega⟩
theorem am7 {s:AS} {k:Nat} {l:List AS} (h:UpK s k l) (hk:bsz s < k):l = rg s:=a6x h.2.1 fun z=>by
 rw [h.2.2]
 exact ⟨fun h=>h.1,fun h=>⟨h,by have:=a9b h;omega⟩⟩
abbrev pU (n:Nat):PC:=.one (.raw (.int .u64 (n:Int)))
abbrev vU (n:Nat):HR:=bd (.raw (.int .u64 (n:Int)))
theorem a5m (n:Int):IntKind.wrap .u64 n = n % 18446744073709551616:=by
 simp [IntKind.wrap,IntKind.signed,IntKind.bits]
theorem aqf {x s:Nat} (hs:s < 4294967296) (hx:x ≤ s) (h:¬ (x:Int) = s) {a:Int} (ha:a = IntKind.wrap .u64 ((x:Int) - s) ∨ a = (x:Int) - s):bz .and .u64 a s = (nxt x s:Nat):=by
 unfold nxt
 rw [if_neg (by omega)]
 show IntKind.wrap .u64 ((BitVec.ofInt 64 a &&& BitVec.ofInt 64 s).toNat:Int) = _
 have e1:(BitVec.ofInt 64 a).toNat = 2 ^ 64 + x - s:=by
  rw [BitVec.toNat_ofInt]
  rcases ha with rfl | rfl
  · rw [a5m]
    omega
  · omega
 have e2:(BitVec.ofInt 64 (s:Int)).toNat = s:=by
  rw [BitVec.toNat_ofInt]
  omega
 have h2:((2 ^ 64 + x - s) &&& s) ≤ s:=Nat.and_le_right
 rw [BitVec.toNat_and,e1,e2,a5m]
 omega
theorem apm {x s:Nat} (hs:s < 4294967296) (h:(x:Int) = s):(s:Int) + 1 = (nxt x s:Nat):=by
 unfold nxt
 rw [if_pos (by omega)]
 omega
theorem a89 {x s:AS} (h:x ≠ 0):bz .and .u32 (asI x - 1) (asI s) = asI ((x - 1) &&& s):=by rw [a82 h,fc]
theorem a0k {α:Type} [Inhabited α] {wr wr':Bool} {e:TypeId} {c:α → Nat → PV} {x:α} {f:Nat → Nat → PV} (h:CoP (f 0 0) (c x 0)) (hw:wr' = true → wr = true:=by exact fun h=>h):CoO (.arr wr 1 e 1 f) (.arr wr' 1 e [x].length (lf c [x])) :=
 ⟨hw,rfl,rfl,rfl,fun i j hi hj=>by
  have hi:i < 1:=hi
  have hj:j < 1:=hj
  obtain rfl:j = 0:=by omega
  obtain rfl:i = 0:=by omega
  exact h⟩
theorem t7 {n:Nat} (h:n < 4294967296):(n:Int) = asI (BitVec.ofNat 32 n):=by
 unfold asI
 rw [BitVec.toNat_ofNat]
 omega
end Go.Hx
end
section
namespace Go.Hx
open Go.Proofs
set_option maxRecDepth 100000
theorem afn:al Tryd.prog 49:=⟨Tryd.f49,Tryd.func49,by kernel_rfl,by kernel_rfl⟩
theorem alm (x s:Nat) (hs:s < 4294967296) (hx:x ≤ s):ao Tryd.prog 49 [pU x,pU s] (ay [pU (nxt x s)]):=by
 refine am (nt:=15) ai Tryd.func49 rfl rfl l9 ?_;refine sx7 ?_;refine qy ?_;refine a6 ?_;refine a7 ?_;refine sx7 ?_;(iterate 3 refine qy ?_);refine a6 ?_
 refine a8 _ rfl (fun r0=>?_) (fun r0=>?_)
 ·
  have h0:=of_decide_eq_true r0
  try simp only [ty] at h0
  refine sx7 ?_;(iterate 3 refine qy ?_);refine a6 ?_
  exact hx8 rfl rfl rfl (⟨cci (apm hs h0),trivial⟩)
 ·
  have h0:=of_decide_eq_false r0
  try simp only [ty] at h0
  refine aa ?_;refine sx7 ?_;(iterate 2 refine qy ?_);refine rqw rfl rfl rfl rfl rfl ?_;(iterate 3 refine qy ?_);refine a6 ?_
  exact hx8 rfl rfl rfl (⟨cci (aqf hs hx h0 (by first | exact .inl rfl | exact .inr rfl)),trivial⟩)
theorem aqi:al Tryd.prog 25:=⟨Tryd.f25,Tryd.func25,by kernel_rfl,by kernel_rfl⟩
theorem ara (s:AS):ao Tryd.prog 25 [pA s] (ay [pP (asl (bg s))]):=by
 refine am (nt:=23) ai Tryd.func25 rfl rfl l9 ?_;refine sx7 ?_;refine qy ?_;refine a6 ?_;refine a7 ?_;refine sx7 ?_;refine qy ?_;refine rc rfl rfl rfl rfl rfl rfl a15 (a57 s) (CoL.refl _) rfl rfl ?_
 refine qy ?_;refine a6 ?_;refine a8 _ rfl (fun r0=>?_) (fun r0=>?_)
 ·
  have h0:=of_decide_eq_true r0
  try simp only [ty] at h0
  refine sx7 ?_;refine qy ?_;refine a6 ?_
  exact hx8 rfl rfl rfl (⟨CoC.one (a7r (a9v h0)),trivial⟩)
 ·
  have h0:=of_decide_eq_false r0
  try simp only [ty] at h0
  refine aa ?_;refine sx7 ?_;refine qy ?_;refine m9 0 ?_;refine qy ?_;refine a6 ?_;refine a7 ?_;refine sx7 ?_;(iterate 2 refine qy ?_);refine a6 ?_;refine af ?_
  refine av (ι:=List AS × AS) ⟨[(0,some _)],[]⟩ ⟨⟨c9,trivial⟩,trivial⟩ (fun y=>⟨[(3,some (.v (.one (.ref 0 y.1.length)))),(4,some (vA y.2))],[(0,some (.arr true 1 34 y.1.length (lf sC y.1)))]⟩) (fun y=>a12 s y) (fun y=>y.2.toNat) (([s],s)) (adj s) ⟨⟨zy,zy,trivial⟩,⟨⟨_,rfl,(a0k (CoP.refl _))⟩,trivial⟩⟩ ?_
  rintro y hy
  have hlen:=hy.2.1
  have hsl:=s.isLt
  refine a7 ?_;refine sx7 ?_;(iterate 2 refine qy ?_);refine a6 ?_;refine a8 _ rfl (fun r1=>?_) (fun r1=>?_)
  ·
   have h1:=r1
   have h1:=of_decide_eq_false (cb h1)
   try simp only [ty] at h1
   have hne:y.2 ≠ 0:=fun e=>h1 (by rw [e];rfl)
   refine aa ?_;refine af ?_;refine sx7 ?_;refine qy ?_;refine rq rfl rfl rfl rfl rfl ?_ (hp:=(a85 hne));(iterate 3 refine qy ?_);refine a6 ?_;refine gy ?_;(iterate 2 refine qy ?_);refine m9 1 ?_
   refine ra 2 true rfl rfl rfl rfl rfl rfl ?_;refine qy ?_;refine a6 ?_;refine ⟨(y.1 ++ [(y.2 - 1) &&& s],(y.2 - 1) &&& s), ?_, ?_, ?_⟩
   · exact af4 hy hne
   · exact te hne
   · exact ⟨⟨⟨_,rfl,(ck rfl)⟩,⟨_,rfl,(fg (a89 hne))⟩,c9,trivial⟩,⟨⟨_,rfl,(ca rfl (CoP.of_eq (by rw [a89 hne];rfl)))⟩,trivial⟩⟩
  ·
   have h1:=r1
   have h1:=of_decide_eq_true (ce h1)
   try simp only [ty] at h1
   have hz:y.2 = 0:=dt.1 h1
   refine au ?_;refine a7 ?_;refine c8 3 rfl rfl rfl ?_;refine gy ?_;refine qy ?_;refine rc rfl rfl rfl rfl rfl rfl a10 (a1j y.1 (by omega)) (CoL.refl _) rfl rfl ?_;refine qy ?_;refine a6 ?_
   exact hx8 rfl rfl rfl (⟨CoC.one (CoP.of_eq (by rw [aab h0,ahn hy hz])),trivial⟩)
theorem aqh:al Tryd.prog 27:=⟨Tryd.f27,Tryd.func27,by kernel_rfl,by kernel_rfl⟩
theorem ao9 (s:AS):ao Tryd.prog 27 [pA s] (ay [pP (asl (bg s))]):=by
 refine am (nt:=34) ai Tryd.func27 rfl rfl l9 ?_;refine sx7 ?_;refine qy ?_;refine a6 ?_;refine a7 ?_;refine sx7 ?_;refine qy ?_
 refine rc rfl rfl rfl rfl rfl rfl nb (ng _) (⟨cci (by first | rfl | exact t7 (by omega)),trivial⟩) rfl rfl ?_;refine qy ?_;refine a6 ?_;refine a8 _ rfl (fun r0=>?_) (fun r0=>?_)
 ·
  have h0:=of_decide_eq_true r0
  try simp only [ty] at h0
  refine sx7 ?_;refine qy ?_;refine a6 ?_
  exact hx8 rfl rfl rfl (⟨CoC.one (a7r (a9v h0)),trivial⟩)
 ·
  have h0:=of_decide_eq_false r0
  try simp only [ty] at h0
  refine aa ?_;refine sx7 ?_;refine qy ?_;refine a6 ?_;refine a7 ?_;refine sx7 ?_;refine qy ?_;refine a6 ?_;refine af ?_
  refine dm 3 900 true 1 34 (lf sC []) (by decide) rfl (CoP.sl rfl (.inr rfl) (fun h=>h) (fun i j hi _=>absurd hi (Nat.not_lt_zero i))) (.inr rfl) rfl ?_
  refine av (ι:=List AS × Nat) ⟨[(0,some _)],[]⟩ ⟨⟨c9,trivial⟩,trivial⟩ (fun x=>⟨[(3,some (.v (.one (.ref 900 x.1.length)))),(4,some (vI x.2))],[(900,some (.arr true 1 34 x.1.length (lf sC x.1)))]⟩) (fun x=>UpK s x.2 x.1 ∧ x.2 ≤ bsz s + 1) (fun x=>bsz s + 1 - x.2) (([],0)) (⟨aiw s,Nat.zero_le _⟩) ⟨⟨zy,zy,trivial⟩,⟨u9,trivial⟩⟩ ?_
  rintro x ⟨hx,hxb⟩
  have hlen:=hx.1
  have hsl:=s.isLt
  have hbz:=a5q s
  refine a7 ?_;refine sx7 ?_;(iterate 2 refine qy ?_);refine rc rfl rfl rfl rfl rfl rfl nb (ng _) (⟨cci (by first | rfl | exact t7 (by omega)),trivial⟩) rfl rfl ?_;refine qy ?_;refine a6 ?_
  refine a8 _ rfl (fun r1=>?_) (fun r1=>?_)
  ·
   have h1:=of_decide_eq_true r1
   try simp only [ty] at h1
   refine aa ?_;refine a7 ?_;refine af ?_;refine sx7 ?_;refine qy ?_;refine a6 ?_;refine af ?_
   refine av (ι:=List AS × Nat) ⟨[(0,some _),(4,some _)],[]⟩ ⟨⟨c9,c9,trivial⟩,trivial⟩ (fun y=>⟨[(3,some (.v (.one (.ref 900 y.1.length)))),(5,some (vU y.2))],[(900,some (.arr true 1 34 y.1.length (lf sC y.1)))]⟩) (fun y=>UpI s x.2 y) (fun y=>s.toNat + 1 - y.2) ((x.1,0)) (ao7 hx) ⟨⟨zy,zy,trivial⟩,⟨u9,trivial⟩⟩ ?_
   rintro y hy
   have hlen2:=hy.2.1
   have hyl:=al1 hy
   have hsa:asI s = (s.toNat:Int):=rfl
   refine a7 ?_;refine sx7 ?_;(iterate 2 refine qy ?_);refine rq rfl rfl rfl rfl rfl ?_ (hp:=(by simp only [du,inR,im,j7];omega));refine qy ?_;refine a6 ?_
   refine a8 _ rfl (fun r2=>?_) (fun r2=>?_)
   ·
    have h2:=of_decide_eq_true r2
    try simp only [ty] at h2
    refine aa ?_;refine a7 ?_;refine af ?_;refine sx7 ?_;refine qy ?_;refine rq rfl rfl rfl rfl rfl ?_ (hp:=(by simp only [du,inR,im,j7];omega))
    refine rc rfl rfl rfl rfl rfl rfl nb (ng _) (⟨cci (by first | rfl | exact t7 (by omega)),trivial⟩) rfl rfl ?_;(iterate 2 refine qy ?_);refine a6 ?_;refine a8 _ rfl (fun r3=>?_) (fun r3=>?_)
    ·
     have h3:=of_decide_eq_true r3
     try simp only [ty] at h3
     refine gy ?_;(iterate 2 refine qy ?_);refine rq rfl rfl rfl rfl rfl ?_ (hp:=(by simp only [du,inR,im,j7];omega));refine m9 0 ?_;refine ra 1 true rfl rfl rfl rfl rfl rfl ?_;refine qy ?_;refine a6 ?_
     refine gy ?_;(iterate 2 refine qy ?_);refine rq rfl rfl rfl rfl rfl ?_ (hp:=(by simp only [du,inR,im,j7];omega))
     refine rc rfl rfl rfl rfl rfl rfl afn (alm y.2 s.toNat s.isLt (by omega)) (⟨CoC.refl _,cci rfl,trivial⟩) rfl rfl ?_;refine qy ?_;refine a6 ?_
     first | (refine ⟨(y.1 ++ [BitVec.ofNat 32 y.2], nxt y.2 s.toNat), ?_, ?_, ?_⟩
              · exact aon hy (by omega) (by omega)
              · have:=(mc s.isLt (ux hy (by omega))).1
                dsimp only
                omega
              · exact ⟨⟨⟨_,rfl,(ck rfl)⟩,zy,c9,c9,trivial⟩,⟨⟨_,rfl,(ca rfl (CoP.of_eq (congrArg (fun z=>PV.raw (.int .u32 z)) (t7 (by omega)))))⟩,trivial⟩⟩)
           | (refine ⟨(y.1,nxt y.2 s.toNat), ?_, ?_, ?_⟩
              · exact aq0 hy (by omega) (by omega)
              · have:=(mc s.isLt (ux hy (by omega))).1
                dsimp only
                omega
              · exact ⟨⟨zy,zy,c9,c9,trivial⟩,⟨u9,trivial⟩⟩)
    ·
     have h3:=of_decide_eq_false r3
     try simp only [ty] at h3
     refine aa ?_;refine gy ?_;(iterate 2 refine qy ?_);refine rq rfl rfl rfl rfl rfl ?_ (hp:=(by simp only [du,inR,im,j7];omega))
     refine rc rfl rfl rfl rfl rfl rfl afn (alm y.2 s.toNat s.isLt (by omega)) (⟨CoC.refl _,cci rfl,trivial⟩) rfl rfl ?_;refine qy ?_;refine a6 ?_
     first | (refine ⟨(y.1 ++ [BitVec.ofNat 32 y.2], nxt y.2 s.toNat), ?_, ?_, ?_⟩
              · exact aon hy (by omega) (by omega)
              · have:=(mc s.isLt (ux hy (by omega))).1
                dsimp only
                omega
              · exact ⟨⟨⟨_,rfl,(ck rfl)⟩,zy,c9,c9,trivial⟩,⟨⟨_,rfl,(ca rfl (CoP.of_eq (congrArg (fun z=>PV.raw (.int .u32 z)) (t7 (by omega)))))⟩,trivial⟩⟩)
           | (refine ⟨(y.1,nxt y.2 s.toNat), ?_, ?_, ?_⟩
              · exact aq0 hy (by omega) (by omega)
              · have:=(mc s.isLt (ux hy (by omega))).1
                dsimp only
                omega
              · exact ⟨⟨zy,zy,c9,c9,trivial⟩,⟨u9,trivial⟩⟩)
   ·
    have h2:=of_decide_eq_false r2
    try simp only [ty] at h2
    refine au ?_;refine gy ?_;(iterate 3 refine qy ?_);refine a6 ?_;refine ⟨(y.1,x.2 + 1), ?_, ?_, ?_⟩
    · show UpK s (x.2 + 1) y.1 ∧ x.2 + 1 ≤ _
      exact ⟨ang (y:=y) hy (by omega),by omega⟩
    · dsimp only
      omega
    · exact ⟨⟨zy,zy,c9,trivial⟩,⟨u9,trivial⟩⟩
  ·
   have h1:=of_decide_eq_false r1
   try simp only [ty] at h1
   refine au ?_;refine sx7 ?_;(iterate 2 refine qy ?_);refine a6 ?_;refine c8 2 rfl rfl rfl ?_
   exact hx8 rfl rfl rfl (⟨CoC.one (CoP.of_eq (by rw [aab h0,am7 hx (by omega)];rfl)),trivial⟩)
end Go.Hx
end
section
namespace Go.Hx
def as2 (l:List Fd) (p x:AS):Bool:=decide (clo l x &&& p ≠ x) && decide (clo l x &&& p ≠ p)
def alb (l:List Fd) (p:AS):Option AS:=(bg p).find? (as2 l p)
def asq (l:List Fd) (p x:AS):Fd:=⟨x,(clo l x &&& p) &&& ~~~x⟩
def a4y (l:List Fd) (p:AS):Fd:=match alb l p with
 | some x=>asq l p x
 | none=>⟨0,0⟩
def o6 (l:List Fd) (p:AS):Bool:=(alb l p).isSome
theorem a40 {s:AS}:∀ (n:Nat) (x:AS),(tv s n x).length ≤ x.toNat + 1
 | 0,x=>Nat.zero_le _
 | n + 1,x=>by
  unfold tv
  by_cases h0:x = 0
  · rw [if_pos h0];simp
  · rw [if_neg h0,List.length_cons]
    have h1:=a40 (s:=s) n ((x - 1) &&& s)
    have h2:=te (s:=s) h0
    omega
theorem a48 (s:AS):(bg s).length ≤ 4294967296:=by
 unfold bg rg
 have h1:=a40 (s:=s) (s.toNat + 1) s
 have h2:=md (tv s (s.toNat + 1) s)
 have h3:=s.isLt
 split
 · simp
 · omega
end Go.Hx
end
