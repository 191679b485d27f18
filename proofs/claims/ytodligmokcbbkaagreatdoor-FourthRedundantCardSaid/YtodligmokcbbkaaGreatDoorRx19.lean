/- A part of the proof: SrW Cs10 V8 Cs11 V10 Cs13 Cs14 Cs15 V13 Cs16 Hx24 Cs17 Cs18 Cs19 Hx20 Cs20. -/
import Derived.Shelf.SlSortCmp.NoneTotal
import Derived.Test.YtodligmokcbbkaaGreatDoorRx15
import Derived.Test.YtodligmokcbbkaaGreatDoorRx17
import Derived.Test.YtodligmokcbbkaaGreatDoorRx18
set_option linter.all false
section
namespace Go.Hx
open Go.Proofs Go.RowKit Go.Sort
set_option maxRecDepth 100000
theorem aeh {w w':World} (h:Below w.heap.size w w'):∃ q os,w' = grow (w.drewN q) os:=by
 refine ⟨w'.drawn - w.drawn,w'.heap.extract w.heap.size w'.heap.size, ?_⟩
 have hd:=h.drawn
 obtain ⟨h1,h2,h3,h4,h5,_⟩:=h
 cases w with
 | mk hp tp dr os out =>
 cases w' with
 | mk hp' tp' dr' os' out' =>
 dsimp only at *
 subst h1 h2 h3
 unfold grow World.drewN
 simp only [World.mk.injEq,true_and,and_true]
 refine ⟨?_,by omega⟩
 apply Array.ext_getElem?
 intro k
 rw [Array.getElem?_append]
 by_cases hk:k < hp.size
 · rw [if_pos hk,h5 k hk]
 · rw [if_neg hk,Array.getElem?_extract]
   by_cases hk2:k < hp'.size
   · rw [if_pos (by omega)]
     congr 1
     omega
   · rw [if_neg (by omega),Array.getElem?_eq_none (by omega)]
theorem ads {α:Type} [Inhabited α] {enc:α → Value} {w:World} {g m:Nat} {d:Array α} {os:Array Obj} {cur:Array Value} {e:TypeId} {fr:Nat × Nat} (h:w.heap[g]? = some (.cells cur e fr)) :
 (sortWorld enc w g 0 m d os).heap[g]? = some (.cells (putCells enc 0 d cur) e fr):=by
 have hlt:=(Array.getElem?_eq_some_iff.1 h).1
 unfold sortWorld
 rw [heap_grow_old _ _ (by simpa using hlt)]
 unfold putRow mapBlock
 simp only [heap_ahead,Array.getElem?_modify,if_true,h]
 rfl
theorem wk {α:Type} [Inhabited α] {enc:α → Value} {w:World} {g m:Nat} {d:Array α} {os:Array Obj} {b:Nat} (hb:b < w.heap.size) (hne:b ≠ g):(sortWorld enc w g 0 m d os).heap[b]? = w.heap[b]?:=by
 unfold sortWorld
 rw [heap_grow_old _ _ (by simpa using hb)]
 unfold putRow mapBlock
 simp only [heap_ahead,Array.getElem?_modify,if_neg (Ne.symm hne)]
theorem aef {α:Type} [Inhabited α] {enc:α → Value} {w:World} {g m:Nat} {d:Array α} {os:Array Obj}:Below 0 w (sortWorld enc w g 0 m d os) :=
 ⟨rfl,rfl,rfl,by unfold sortWorld;simp,fun k hk=>absurd hk (Nat.not_lt_zero k),by unfold sortWorld grow;simp⟩
theorem aj2 {α:Type} [Inhabited α] {enc:α → Value} {d:Array α} {cur:Array Value} (h:d.size ≤ cur.size):(putCells enc 0 d cur).toList.take d.size = d.toList.map enc:=by
 apply List.ext_getElem?
 intro k
 rw [List.getElem?_take,List.getElem?_map,Array.getElem?_toList,Array.getElem?_toList]
 by_cases hk:k < d.size
 · rw [if_pos hk]
   unfold putCells
   rw [Array.getElem?_mapIdx,Array.getElem?_eq_getElem (by omega),Array.getElem?_eq_getElem hk]
   simp only [Option.map_some,Nat.zero_add,Nat.sub_zero]
   rw [if_pos ⟨Nat.zero_le _,hk⟩,getElem!_pos d k hk]
 · rw [if_neg hk,Array.getElem?_eq_none (by omega)]
   rfl
theorem agq {P:Program} {ρ:Go.Shelf.Ren} {α:Type} [Inhabited α] (L:SlLaysF.n6 P ρ) (enc:α → Value) (h1:∀ x,(enc x).oneCell' = true) (cf:α → α → Int) (hO:SWO (ltOf cf)) (hT:∀ x y,(ltOf cf) x y = false → (ltOf cf) y x = false → x = y)
 (g:Nat) (caps:Nat → PV) (hg:∀ args w,(callFunc g args).run P w = .ok (.enter g args) w) (hc:∀ x y,aj P g [.one (.raw (enc x)), .one (.raw (enc y))] (ao [.one (.raw (.int .i64 (cf x y)))])) (id:Nat) (e:TypeId) (l:List α) (hsz:l.length ≤ 8589934592) :
 ju P (ρ.f 6) [.one (.ref id l.length), .one (.p (.fn g 0 caps))] [(id, .arr true 1 e l.length (lf (fun x _=>.raw (enc x)) l))] (.tup [])
  [(id, .arr true 1 e l.length (lf (fun x _=>.raw (enc x)) (l.mergeSort fun x y=>!(ltOf cf) y x)))] [id]:=by
 intro w c us hM hus
 match us,hus with
 | [u,v],⟨hu,hv,_⟩ =>
  obtain ⟨cs,rfl,hcl,_⟩:=hv
  have hcs:cs = []:=List.eq_nil_of_length_eq_zero hcl
  subst hcs
  have hl1:lk [(id,ah.arr true 1 e l.length (lf (fun x _=>.raw (enc x)) l))] id = some (.arr true 1 e l.length (lf (fun x _=>.raw (enc x)) l)):=by simp [lk]
  have hu2:=(hu.2.2 _ _ _ _ hl1 rfl).2 rfl
  subst hu2
  have hob:=hM.objs id _ hl1
  obtain ⟨h0,hmax,h5⟩:=hob
  have hlen:(l.mergeSort fun x y=>!(ltOf cf) y x).length = l.length:=List.length_mergeSort _
  have hev:∀ f':Nat → Nat → PV,Evo c (lk [(id,ah.arr true 1 e l.length (lf (fun x _=>.raw (enc x)) l))]) c (lk [(id,ah.arr true 1 e l.length f')]) id:=fun f' =>
   .inr (.inr ⟨_, .arr true 1 e l.length f',1,e,l.length,l.length,hl1,rfl,by simp [lk],rfl,Nat.le_refl _,fun _=>rfl,fun _ _ _ _ _ _ _ h=>by cases h⟩)
  rcases Nat.eq_zero_or_pos l.length with hz | hpos
  ·
   have hl:l = []:=List.eq_nil_of_length_eq_zero hz
   subst hl
   have hform:∃ ad cap,c.own id = .slice ad 0 cap:=by
    rcases h5 with ⟨_,xs,h2,_⟩ | ⟨_,_,ad,cap,hv,_⟩
    · rcases h2.2 with ⟨hv,_⟩ | ⟨g,cap,cur,hv,_⟩
      · exact ⟨none,0,hv⟩
      · exact ⟨_,cap,hv⟩
    · exact ⟨ad,cap,hv⟩
   obtain ⟨ad,cap,hown⟩:=hform
   have hms:([]:List α).mergeSort (fun x y=>!(ltOf cf) y x) = []:=by simp
   rw [hown,hms]
   refine (AnyF.slices_SortFunc_none { L with } ad cap (.func (.func g) #[] #[]) w).mono ?_
   rintro e' w' ⟨rfl,rfl⟩
   exact ⟨_,c,rfl,⟨[],rfl,trivial⟩,hM,Below.refl _ _,fun _ _ _=>⟨rfl,rfl⟩,fun id0 ob b ho hb=>.inr ⟨id0,ob,ho,hb⟩,fun id0 hid=>by
    rw [List.mem_singleton.1 hid]
    exact Evo.refl _ _ _⟩
  · obtain ⟨h6,xs,h2,h4⟩:c.blk id = f0 (c.own id) ∧ ∃ xs,w.ownsRow 0 e 1 (c.own id) l.length xs ∧ ∀ i j,i < l.length → j < 1 → ∃ x,xs[i * 1 + j]? = some x ∧ b4 c.imm (lf (fun x _=>.raw (enc x)) l i j) x:=by
     rcases h5 with h5 | ⟨h6 | h6,_⟩
     · exact h5
     · cases h6
     · omega
    obtain ⟨hxl,hrow⟩:=h2
    rcases hrow with ⟨_,hz⟩ | ⟨b,cap,cur,hown,hbase,hheap,hnc,hcm,hcs,htake⟩
    · omega
    have hblk:c.blk id b:=by rw [h6,hown];rfl
    have hlt:b < w.heap.size:=(Array.getElem?_eq_some_iff.1 hheap).1
    have hcell:∀ j,(hj:j < l.length) → cur[j]? = some (enc l[j]):=fun j hj=>by
     obtain ⟨x,hx,hr⟩:=h4 j 0 hj (by omega)
     rw [Nat.mul_one,Nat.add_zero,← htake,List.getElem?_take,if_pos (by omega),Array.getElem?_toList] at hx
     rw [hx]
     have hr:x = enc (l.getD j default) ∧ _:=hr
     rw [hr.1,List.getD_eq_getElem?_getD,List.getElem?_eq_getElem hj]
     rfl
    have hH:Holds enc w b 0 l.toArray:=fun j hj=>by
     have hj:j < l.length:=by simpa using hj
     rw [Nat.zero_add]
     refine ⟨?_,by simp [World.frozen?,hheap]⟩
     have:l.toArray[j]! = l[j]:=by rw [getElem!_pos l.toArray j (by simpa using hj)];simp
     rw [this]
     simp [World.cell?,hheap,hcell j hj]
    have hcmp:CmpLays1 P g #[] enc cf b 0 l.toArray.size w:=by
     intro m os dk hdk x y
     have hcimm:∀ b' ob,c.imm b' = some ob → (sortWorld enc w b 0 m dk os).heap[b']? = some ob:=fun b' ob hb'=>by
      have hne:b' ≠ b:=fun he=>by
       have:=hM.sep id _ b hl1 hblk
       rw [← he,hb'] at this
       cases this
      have hw:=hM.imm b' ob hb'
      rw [wk (Array.getElem?_eq_some_iff.1 hw).1 hne]
      exact hw
     have h:=hc x y (sortWorld enc w b 0 m dk os) c.imm [enc x,enc y] c.tab hcimm ⟨⟨rfl,h1 x⟩,⟨rfl,h1 y⟩,trivial⟩
     refine h.mono ?_
     rintro e' w' ⟨v,imm',rfl,hr,_,_,hb⟩
     obtain ⟨q,os',hq⟩:=aeh hb
     exact ⟨by rw [hr.1],q,os',hq⟩
    have hS:=Any.slices_SortFunc_total L enc h1 cf hO g #[] b 0 cap l.toArray w hg hcmp hH hlt (by rw [List.size_toArray];omega) hT
    rw [hown]
    refine Calls.mono hS ?_
    rintro e' w' ⟨rfl,m,os,rfl⟩
    generalize hSd:(l.mergeSort fun x y=>!(ltOf cf) y x) = S at *
    refine ⟨_,c,rfl,⟨[],rfl,trivial⟩,⟨fun id0 ob ho=>?_,fun id0 id1 ob0 ob1 b' ho0 ho1 _ _=>(a00 ho0).1.trans (a00 ho1).1.symm,fun b' ob hb'=>?_,fun id0 ob b' ho hb'=>?_⟩,aef,
     fun b' hb' hno=>⟨wk hb' (fun he=>hno id _ hl1 (by rw [he];exact hblk)),rfl⟩,fun id0 ob b' ho hb'=>.inr ⟨id,_,hl1,by rw [← (a00 ho).1];exact hb'⟩,fun id0 hid=>by
      rw [List.mem_singleton.1 hid]
      exact hev _⟩
    · obtain ⟨rfl,rfl⟩:=a00 ho
      refine ⟨h0,hmax, .inl ⟨h6,S.map enc,⟨by simp [hlen], .inr ⟨b,cap,putCells enc 0 S.toArray cur,hown,hbase,ads hheap,hnc,hcm,by simpa [putCells] using hcs, ?_⟩⟩,fun i j hi hj=>?_⟩⟩
      · have:=aj2 (enc:=enc) (d:=S.toArray) (cur:=cur) (by rw [List.size_toArray,hlen,hcs];omega)
        rw [List.size_toArray,hlen] at this
        rw [Nat.mul_one]
        exact this
      · obtain rfl:j = 0:=by omega
        have hi':i < S.length:=by rw [hlen];exact hi
        refine ⟨enc S[i], ?_, ?_⟩
        · rw [Nat.mul_one,Nat.add_zero,List.getElem?_map,List.getElem?_eq_getElem hi']
          rfl
        · show b4 c.imm (.raw (enc (S.getD i default))) _
          rw [List.getD_eq_getElem?_getD,List.getElem?_eq_getElem hi']
          exact ⟨rfl,h1 _⟩
    · have hne:b' ≠ b:=fun he=>by
       have:=hM.sep id _ b hl1 hblk
       rw [← he,hb'] at this
       cases this
      have hw:=hM.imm b' ob hb'
      rw [wk (Array.getElem?_eq_some_iff.1 hw).1 hne]
      exact hw
    · have:=(a00 ho).1
      subst this
      exact hM.sep id0 _ b' hl1 hb'
 | [],h=>exact h.elim
 | [_],⟨_,h⟩=>exact h.elim
 | _ :: _ :: _ :: _,⟨_,_,h⟩=>exact h.elim
theorem uy {a b:AS}:ltOf x5 a b = bef a b:=aiy
theorem ajv:SWO (ltOf x5) where
 irrefl x:=by rw [uy];exact v7 x
 trans x y z h k:=by rw [uy] at *;exact tt h k
 ntrans x y z h k:=by
  rw [uy] at *
  rw [Bool.eq_false_iff,ne_eq,n5] at *
  omega
def srt (l:List AS):List AS:=l.mergeSort fun x y=>!bef y x
theorem ar4:ak Tryz.prog 69:=⟨Tryz.f69,Tryz.func69,by kernel_rfl,by kernel_rfl⟩
theorem aud (id:Nat) (caps:Nat → PV) (l:List AS) (hsz:l.length ≤ 8589934592):ju Tryz.prog 69 [.one (.ref id l.length), .one (.p (.fn 70 0 caps))] [(id, .arr true 1 27 l.length (lf sC l))] (.tup [])
 [(id, .arr true 1 27 l.length (lf sC (srt l)))] [id]:=by
 have h:=agq Tryz.laysSort (fun s:AS=>.int .u32 (asI s)) (fun _=>rfl) x5 ajv (fun x y h k=>by
  rw [uy] at h k
  apply Classical.byContradiction
  intro hne
  rcases a5m hne with h2 | h2
  · rw [h] at h2;cases h2
  · rw [k] at h2;cases h2) 70 caps (enters_of Tryz.func70 (by kernel_rfl) rfl) (fun x y=>ajr x y) id 27 l hsz
 have e:(fun x y:AS=>!(ltOf x5) y x) = fun x y=>!bef y x:=by
  funext x y
  rw [uy]
 rw [e] at h
 exact h
theorem ao7 {l:List AS} {x:AS}:x ∈ srt l ↔ x ∈ l:=by unfold srt;exact List.mem_mergeSort
theorem acx (l:List AS):(srt l).length = l.length:=List.length_mergeSort _
theorem yg:∀ {l:List AS} {p:Option AS},l.Pairwise (fun a b=>bef b a = false) → (∀ x,p = some x → ∀ y ∈ l,bef y x = false) → (kp p l).Pairwise (fun a b=>bef a b = true) ∧ ∀ x,p = some x → ∀ y ∈ kp p l,bef x y = true
 | [],p,_,_=>⟨by simp [kp],fun x _ y hy=>by simp [kp] at hy⟩
 | z :: l,p,h,hp=>by
  obtain ⟨h1,h2⟩:=List.pairwise_cons.1 h
  simp only [kp]
  split
  · rename_i e
    subst e
    exact yg h2 fun x hx y hy=>hp x hx y (List.mem_cons_of_mem _ hy)
  · rename_i hne
    obtain ⟨q1,q2⟩:=yg (p:=some z) h2 fun x hx y hy=>by
     simp only [Option.some.injEq] at hx
     subst hx
     exact h1 y hy
    refine ⟨List.pairwise_cons.2 ⟨fun y hy=>q2 z rfl y hy,q1⟩,fun x hx y hy=>?_⟩
    have hxz:bef x z = true:=by
     have h3:=hp x hx z List.mem_cons_self
     rcases a5m (a:=x) (b:=z) (fun e=>hne (by rw [hx,e])) with h4 | h4
     · exact h4
     · rw [h3] at h4;cases h4
    rcases List.mem_cons.1 hy with rfl | hy
    · exact hxz
    · exact tt hxz (q2 z rfl y hy)
theorem aiv (l:List AS):ml (srt l) = ord l:=by
 refine aqd (yg ?_ fun x hx=>by cases hx).1 fun z=>by rw [akc,ao7]
 have h:=List.pairwise_mergeSort (le:=fun x y:AS=>!bef y x) (fun a b c h k=>by
  simp only [Bool.not_eq_true'] at *
  rw [Bool.eq_false_iff,ne_eq,n5] at *
  omega) (fun a b=>by
  simp only [Bool.or_eq_true,Bool.not_eq_true']
  rw [Bool.eq_false_iff,Bool.eq_false_iff,ne_eq,ne_eq,n5,n5]
  omega) l
 refine h.imp fun {a b} hab=>?_
 simpa using hab
end Go.Hx
end
section
namespace Go.Hx
abbrev bx (a:PV):PV:=.vp 1 fun j=>[a].getD j .any
def a3g (W:AS → AS → Bool) (l:List AS) (x:AS):Bool:=l.any fun b=>decide (x ≠ b) && W x b
def alz (W:AS → AS → Bool) (l:List AS):List AS:=(ord l).filter fun x=>!a3g W (ord l) x
def aam (a b:AS):Bool:=decide (sub a b)
def a34 (l:List AS):List AS:=alz aam l
theorem afy (l:List AS):(ord l).Nodup:=(wz l).imp fun {a b} h e=>by
 subst e
 rw [v7] at h
 cases h
def okT (l:List AS) (i k:Nat):Bool:=(List.range k).all fun j=>decide (j = i) || !aam (l.getD i default) (l.getD j default)
def axb (l:List AS) (i:Nat):List AS:=((ord l).take i).filter fun x=>!a3g aam (ord l) x
end Go.Hx
end
section
namespace Go.Hx
open Go.Proofs
set_option maxRecDepth 100000
theorem a48:ak Tryz.prog 40:=⟨Tryz.f40,Tryz.func40,by kernel_rfl,by kernel_rfl⟩
theorem a4j (l:List AS) (hl:l.length ≤ 8589934592):aj Tryz.prog 40 [pP (asl l)] (ao [pP (asl (ord l))]):=by
 refine ai (nt:=10) ae Tryz.func40 rfl rfl l9 ?_;refine sx7 ?_;refine qy ?_;refine a6 ?_;refine sx7 ?_;refine qy ?_
 refine j6 rfl rfl rfl rfl rfl rfl ag4 (ad0 l.length false (lf sC l) (by omega)) (im.refl _) trivial rfl rfl ?_;refine qy ?_;refine a6 ?_;refine sx7 ?_;refine qy ?_
 refine j6 rfl rfl rfl rfl rfl rfl ar4 (aud 0 _ l hl) (im.refl _) ⟨u9,trivial⟩ rfl rfl ?_;refine a6 ?_;refine sx7 ?_;refine qy ?_
 refine j6 rfl rfl rfl rfl rfl rfl ape ((akm (srt l)).swap 900 0) (⟨congrArg (HV.ref 0) (acx l).symm,trivial⟩) ⟨⟨_,rfl,anc rfl (acx l).symm⟩,trivial⟩ rfl rfl ?_;refine qy ?_;refine a6 ?_
 exact hx8 rfl rfl rfl (⟨CoC.one (CoP.of_eq (by rw [aiv])),trivial⟩)
theorem arx:ak Tryz.prog 77:=⟨Tryz.f77,Tryz.func77,by kernel_rfl,by kernel_rfl⟩
theorem amu (b x:AS) (g k:Nat) (caps:Nat → PV) (W:AS → AS → Bool) (hg:ak Tryz.prog g) (hW:∀ x y,aj Tryz.prog g (pA x :: pA y :: fw caps k 0) (ao [pB (W x y)])):aj Tryz.prog 77 [pA b,pP (bx (asC x)),pP (bx (.fn g k caps))] (ao [pB (decide (x ≠ b) && W x b)]):=by
 refine ai (nt:=14) ae Tryz.func77 rfl rfl l9 ?_;refine sx7 ?_;refine qy ?_;refine a6 ?_;refine sx7 ?_;(iterate 4 refine qy ?_);refine bd rfl rfl (fun r0=>?_) (fun r0=>?_)
 ·
  have h0:=r0
  have h0:=of_decide_eq_false (b7 h0)
  try simp only [ty] at h0
  (iterate 3 refine qy ?_ (hg:=(gtt r0)));refine rc rfl rfl rfl rfl rfl rfl hg (hW x b) (CoL.refl _) rfl (gtt r0) ?_;(iterate 2 refine qy ?_);refine a6 ?_
  exact hx8 rfl rfl rfl (⟨ccb (by simp_all [fz]),trivial⟩)
 ·
  have h0:=r0
  have h0:=of_decide_eq_true (b6 h0)
  try simp only [ty] at h0
  (iterate 4 refine k9 (gft r0) ?_);refine rq rfl rfl rfl rfl rfl ?_ (hp:=r0);refine qy ?_;refine a6 ?_
  exact hx8 rfl rfl rfl (⟨ccb (by simp_all [fz]),trivial⟩)
theorem asb:ak Tryz.prog 75:=⟨Tryz.f75,Tryz.func75,by kernel_rfl,by kernel_rfl⟩
theorem ark (x:AS) (l:List AS) (g k:Nat) (caps:Nat → PV) (W:AS → AS → Bool) (hg:ak Tryz.prog g) (hW:∀ x y,aj Tryz.prog g (pA x :: pA y :: fw caps k 0) (ao [pB (W x y)])):aj Tryz.prog 75 [pA x,pP (bx (asl l)),pP (bx (.fn g k caps))] (ao [pB (a3g W l x)]):=by
 refine ai (nt:=8) ae Tryz.func75 rfl rfl l9 ?_;refine sx7 ?_;refine m9 0 ?_;refine qy ?_;refine a6 ?_;refine a7 ?_;refine ez 3 rfl rfl rfl ?_;refine gy ?_;(iterate 2 refine qy ?_)
 refine rc rfl rfl rfl rfl rfl rfl apk (at0 l 77 2 (fun i=>[bx (asC x),bx (.fn g k caps)].getD i .any) (fun b=>decide (x ≠ b) && W x b) arx (fun b=>amu b x g k caps W hg hW)) (CoL.refl _) rfl rfl ?_;refine qy ?_
 refine a6 ?_
 exact hx8 rfl rfl rfl (CoL.refl _)
theorem arh:ak Tryz.prog 47:=⟨Tryz.f47,Tryz.func47,by kernel_rfl,by kernel_rfl⟩
theorem at1 (l:List AS) (hl:l.length ≤ 8589934592) (g k:Nat) (caps:Nat → PV) (W:AS → AS → Bool) (hg:ak Tryz.prog g) (hW:∀ x y,aj Tryz.prog g (pA x :: pA y :: fw caps k 0) (ao [pB (W x y)])):aj Tryz.prog 47 [pP (asl l),pP (.fn g k caps)] (ao [pP (asl (alz W l))]):=by
 refine ai (nt:=12) ae Tryz.func47 rfl rfl l9 ?_;refine sx7 ?_;refine m9 2 ?_;refine qy ?_;refine a6 ?_;refine sx7 ?_;refine qy ?_
 refine rc rfl rfl rfl rfl rfl rfl a48 (a4j l hl) (CoL.refl _) rfl rfl ?_;refine m9 3 ?_;refine s9 ?_;refine a6 ?_;refine a7 ?_;refine ez 5 rfl rfl rfl ?_;refine ez 3 rfl rfl rfl ?_
 refine gy ?_;refine qy ?_;refine j6 rfl rfl rfl rfl rfl rfl ag4 (ad0 (ord l).length false (lf sC (ord l)) (Nat.le_trans (a12 l) (by omega))) (im.refl _) trivial rfl rfl ?_;refine qy ?_
 refine j6 rfl rfl rfl rfl rfl rfl aqh ((at6 (ord l) 75 2 (fun i=>[bx (asl (ord l)),bx (.fn g k caps)].getD i .any) (a3g W (ord l)) asb (fun x=>ark x (ord l) g k caps W hg hW)).swap 900 0) (im.refl _) ⟨u9,trivial⟩ rfl rfl ?_
 refine qy ?_;refine a6 ?_
 exact hx8 rfl rfl rfl (CoL.refl _)
theorem aqo:ak Tryz.prog 48:=⟨Tryz.f48,Tryz.func48,by kernel_rfl,by kernel_rfl⟩
theorem atv (a b:AS):aj Tryz.prog 48 [pA a,pA b] (ao [pB (aam a b)]):=by
 refine ai (nt:=9) ae Tryz.func48 rfl rfl l9 ?_;refine sx7 ?_;refine qy ?_;refine a6 ?_;refine sx7 ?_;(iterate 5 refine qy ?_);refine a6 ?_
 exact hx8 rfl rfl rfl (⟨ccb (decide_eq_decide.2 abm),trivial⟩)
theorem ar0:ak Tryz.prog 24:=⟨Tryz.f24,Tryz.func24,by kernel_rfl,by kernel_rfl⟩
theorem aje (l:List AS) (hl:l.length ≤ 8589934592):aj Tryz.prog 24 [pP (asl l)] (ao [pP (asl (a34 l))]):=by
 refine ai (nt:=5) ae Tryz.func24 rfl rfl l9 ?_;refine sx7 ?_;refine qy ?_;refine a6 ?_;refine sx7 ?_;refine qy ?_
 refine rc rfl rfl rfl rfl rfl rfl arh (at1 l hl 48 0 _ aam aqo (fun a b=>atv a b)) (CoL.refl _) rfl rfl ?_;refine qy ?_;refine a6 ?_
 exact hx8 rfl rfl rfl (CoL.refl _)
end Go.Hx
end
section
namespace Go.Hx
def amf (l:List Fd):List Fd:=l.foldl (fun o x=>if x ∈ o then o else o ++ [x]) []
def axe (l:List Fd) (i k:Nat):Bool:=(l.take k).any fun x=>decide (x = l.getD i default)
def ah8 (f:Fd):List Fd:=(bj (f.rhs &&& ~~~f.lhs)).map fun a=>(⟨f.lhs,(1:AS) <<< a⟩:Fd)
def a8n (l:List Fd):List Fd:=(l.map ah8).flatten
def awp (l:List Fd) (i k:Nat):List Fd:=a8n (l.take i) ++ (ah8 (l.getD i default)).take k
theorem a8v (s:AS):(bj s).length ≤ 32:=by rw [← tc];exact ain s
def exB (l:List Fd) (x:Fd) (a:Nat):Bool:=imp l ⟨x.lhs &&& ~~~((1:AS) <<< a),x.rhs⟩
def ad5 (l:List Fd) (i:Nat):List Fd:=l.take i ++ l.drop (i + 1)
def avb (l:List Fd) (i:Nat):Bool:=imp (ad5 l i) (l.getD i default)
end Go.Hx
end
section
namespace Go.Hx
open Go.Proofs
set_option maxRecDepth 100000
def rwC (l:List Fd):Nat → PV
 | 0=>fdl l
 | _=>.any
abbrev ayi (ls:List (List Fd)):PV:=psl 1 rwC ls
end Go.Hx
end
section
namespace Go.Hx
def awv (l:List Fd) (i k:Nat):List Fd:=a8n (l.take i) ++ (ath ((l.getD i default).rhs &&& ~~~(l.getD i default).lhs) k).map fun a=>(⟨(l.getD i default).lhs,(1:AS) <<< a⟩:Fd)
def av5 (x:Fd) (a:Nat):Fd:=⟨x.lhs &&& ~~~((1:AS) <<< a),x.rhs⟩
def al6 (i:Nat) (l:List Fd) (a:Nat):List Fd:=if dl (l.getD i default).lhs a && exB l (l.getD i default) a then l.set i (av5 (l.getD i default) a) else l
def ayp (l:List Fd) (i k:Nat):List Fd:=((bj (l.getD i default).lhs).take k).foldl (al6 i) l
def awe (l:List Fd) (i:Nat):List Fd:=(bj (l.getD i default).lhs).foldl (al6 i) l
def aw4 (l:List Fd) (i:Nat):List Fd:=(List.range i).foldl awe l
def afd:Nat → List Fd → Nat → List Fd
 | 0,l,_=>l
 | f + 1,l,i=>if i < l.length then (if avb l i then afd f (ad5 l i) i else afd f l (i + 1)) else l
def spl (l:List Fd):List Fd:=amf (a8n l)
def aiq (l:List Fd):List Fd:=amf (aw4 (spl l) (spl l).length)
def avh (l:List Fd):List Fd:=afd (aiq l).length (aiq l) 0
def axd (t:AS) (l:List Fd):Prop:=∀ x ∈ l,sub x.lhs t
end Go.Hx
end
section
namespace Go.Hx
def aeq (n:Int) (l:List Fd):List Fd:=if dy n l = 0 then avh l else []
theorem aea {s:Nat} {cl:Bool} {f:Nat → Nat → PV} {L:List AS} (h:L = []):CoP (.sl 0 s cl f) (asl L):=by subst h;exact aow
def ay2 (l:List Fd) (i k:Nat):List Fd:=(List.range k).foldl (al6 i) l
end Go.Hx
end
section
namespace Go.Hx
theorem a3r (a b:Nat):a &&& b = 2 * (a / 2 &&& b / 2) + (a % 2 &&& b % 2):=by
 have h1:=Nat.div_add_mod (a &&& b) 2
 have h2:(a &&& b) % 2 = a % 2 &&& b % 2:=by
  have:=Nat.and_mod_two_pow (a:=a) (b:=b) (n:=1)
  simpa using this
 rw [Nat.and_div_two,h2] at h1
 exact h1.symm
theorem ack (a b:Nat):(a % 2 &&& b % 2) = if a % 2 = 1 ∧ b % 2 = 1 then 1 else 0:=by
 rcases Nat.mod_two_eq_zero_or_one a with h | h <;> rcases Nat.mod_two_eq_zero_or_one b with k | k <;> rw [h,k] <;> rfl
theorem a6t {x s:Nat} (h:x &&& s = x):(x / 2 &&& s / 2 = x / 2) ∧ (x % 2 = 1 → s % 2 = 1):=by
 have h1:=a3r x s
 rw [h,ack] at h1
 split at h1 <;> rename_i hc
 · exact ⟨by omega,fun _=>hc.2⟩
 · exact ⟨by omega,fun hx=>by omega⟩
theorem al8:∀ (x s z:Nat),x &&& s = x → z &&& s = z → z < x → z ≤ ((x - 1) &&& s):=by
 intro x
 induction x using Nat.strongRecOn with
 | _ x ih =>
  intro s z hx hz hlt
  obtain ⟨x1,x2⟩:=a6t hx
  obtain ⟨z1,z2⟩:=a6t hz
  rw [a3r (x - 1) s,ack]
  rcases Nat.mod_two_eq_zero_or_one x with hb | hb
  · have e1:(x - 1) / 2 = x / 2 - 1:=by omega
    have e2:(x - 1) % 2 = 1:=by omega
    have:=ih (x / 2) (by omega) (s / 2) (z / 2) x1 z1 (by omega)
    rw [e1,e2]
    by_cases hs:s % 2 = 1
    · rw [if_pos ⟨rfl,hs⟩];omega
    · rw [if_neg (fun h=>hs h.2)]
      have:z % 2 = 0:=by omega
      omega
  · have e1:(x - 1) / 2 = x / 2:=by omega
    have e2:(x - 1) % 2 = 0:=by omega
    rw [e1,e2,x1,if_neg (by omega)]
    omega
theorem ab4 {z s:AS}:sub z s ↔ z.toNat &&& s.toNat = z.toNat:=by
 rw [← BitVec.toNat_and,BitVec.toNat_inj,bf]
 constructor
 · intro h
   apply BitVec.eq_of_getLsbD_eq
   intro k hk
   rw [BitVec.getLsbD_and]
   cases hz:z.getLsbD k with
   | false=>rfl
   | true=>rw [h k hk hz];rfl
 · intro h i _ hi
   rw [← h,BitVec.getLsbD_and] at hi
   simp at hi
   exact hi.2
theorem ank {z s:AS} (h:sub z s):bsz z ≤ bsz s:=by
 unfold bsz
 apply List.countP_mono_left
 intro i hi hb
 exact bf.1 h i (List.mem_range.1 hi) hb
def xb (s:AS):Nat → AS → List AS
 | 0,_=>[]
 | n + 1,x=>x :: if x = 0 then [] else xb s n ((x - 1) &&& s)
theorem a9f {x:AS} (h:x ≠ 0):(x - 1).toNat = x.toNat - 1:=by
 have h0:x.toNat ≠ 0:=fun e=>h (BitVec.eq_of_toNat_eq e)
 have:=x.isLt
 rw [BitVec.toNat_sub]
 show (2 ^ 32 - 1 + x.toNat) % 2 ^ 32 = _
 omega
theorem a2g {x s:AS}:sub ((x - 1) &&& s) s:=by
 rw [ab4,BitVec.toNat_and,Nat.and_assoc,Nat.and_self]
theorem vo {x s:AS} (h:x ≠ 0):((x - 1) &&& s).toNat < x.toNat:=by
 have h0:x.toNat ≠ 0:=fun e=>h (BitVec.eq_of_toNat_eq e)
 rw [BitVec.toNat_and,a9f h]
 have:((x.toNat - 1) &&& s.toNat) ≤ x.toNat - 1:=Nat.and_le_left
 omega
theorem aao {x s z:AS} (hx:sub x s) (hz:sub z s) (h:z.toNat < x.toNat):z.toNat ≤ ((x - 1) &&& s).toNat:=by
 have h0:x ≠ 0:=fun e=>by subst e;exact absurd h (Nat.not_lt_zero _)
 rw [BitVec.toNat_and,a9f h0]
 exact al8 _ _ _ (ab4.1 hx) (ab4.1 hz) h
theorem a9x {s:AS}:∀ (n:Nat) (x:AS),sub x s → x.toNat < n → ∀ z,z ∈ xb s n x ↔ sub z s ∧ z.toNat ≤ x.toNat
 | 0,x,_,h,z=>absurd h (Nat.not_lt_zero _)
 | n + 1,x,hx,h,z=>by
  unfold xb
  by_cases h0:x = 0
  · rw [if_pos h0,List.mem_singleton]
    subst h0
    constructor
    · rintro rfl;exact ⟨hx,Nat.le_refl _⟩
    · rintro ⟨_,h⟩
      exact BitVec.eq_of_toNat_eq (Nat.le_antisymm h (Nat.zero_le _))
  · rw [if_neg h0,List.mem_cons,a9x n _ a2g (by have:=vo (s:=s) h0;omega)]
    constructor
    · rintro (rfl | ⟨h1,h2⟩)
      · exact ⟨hx,Nat.le_refl _⟩
      · have:=vo (s:=s) h0
        exact ⟨h1,by omega⟩
    · rintro ⟨h1,h2⟩
      by_cases he:z = x
      · exact .inl he
      · have hne:z.toNat ≠ x.toNat:=fun e=>he (BitVec.eq_of_toNat_eq e)
        exact .inr ⟨h1,aao hx h1 (by omega)⟩
def wj (s:AS):List AS:=ord (xb s (s.toNat + 1) s)
theorem sub_self (s:AS):sub s s:=by rw [ab4,Nat.and_self]
theorem am5 {z s:AS} (h:sub z s):z.toNat ≤ s.toNat:=by rw [← ab4.1 h];exact Nat.and_le_right
theorem a6v {s z:AS}:z ∈ wj s ↔ sub z s:=by
 unfold wj
 rw [re,a9x _ _ (sub_self s) (Nat.lt_succ_self _)]
 exact ⟨fun h=>h.1,fun h=>⟨h,am5 h⟩⟩
theorem aix {l:List AS} {s:AS} (ho:qh l) (h:∀ z,z ∈ l ↔ sub z s):l = wj s:=uk ho (wz _) fun z=>by rw [h z];exact a6v.symm
def dn (s:AS):List AS:=if 12 < bsz s then [] else wj s
theorem amp {s:AS} (h:(12:Int) < bsz s):dn s = []:=if_pos (by omega)
theorem amo {s:AS} (h:¬ (12:Int) < bsz s):dn s = wj s:=if_neg (by omega)
def a3y (s:AS) (y:List AS × AS):Prop:=sub y.2 s ∧ y.1.length + y.2.toNat ≤ s.toNat + 1 ∧ ∀ z,z ∈ y.1 ↔ sub z s ∧ y.2.toNat ≤ z.toNat
theorem ahd (s:AS):a3y s ([s],s):=⟨sub_self s,by simp only [List.length_singleton];omega,fun z=>by
 rw [List.mem_singleton]
 constructor
 · rintro rfl;exact ⟨sub_self _,Nat.le_refl _⟩
 · rintro ⟨h1,h2⟩;exact BitVec.eq_of_toNat_eq (Nat.le_antisymm (am5 h1) h2)⟩
theorem afs {s:AS} {y:List AS × AS} (h:a3y s y) (h0:y.2 ≠ 0):a3y s (y.1 ++ [(y.2 - 1) &&& s],(y.2 - 1) &&& s):=by
 obtain ⟨h1,h2,h3⟩:=h
 have hl:=vo (s:=s) h0
 refine ⟨a2g,by simp only [List.length_append,List.length_singleton];omega,fun z=>?_⟩
 rw [List.mem_append,List.mem_singleton,h3]
 constructor
 · rintro (⟨k1,k2⟩ | rfl)
   · exact ⟨k1,by dsimp only;omega⟩
   · exact ⟨a2g,Nat.le_refl _⟩
 · rintro ⟨k1,k2⟩
   dsimp only at k2
   by_cases hz:y.2.toNat ≤ z.toNat
   · exact .inl ⟨k1,hz⟩
   · have:=aao h1 k1 (by omega)
     exact .inr (BitVec.eq_of_toNat_eq (by omega))
theorem ak3 {s:AS} {y:List AS × AS} (h:a3y s y) (h0:y.2 = 0):ord y.1 = wj s:=aix (wz _) fun z=>by
 rw [re,h.2.2,h0]
 exact ⟨fun h=>h.1,fun h=>⟨h,Nat.zero_le _⟩⟩
def nxt (x s:Nat):Nat:=if x = s then s + 1 else ((2 ^ 64 + x - s) &&& s)
def UpI (s:AS) (k:Nat) (y:List AS × Nat):Prop :=
 (y.2 = s.toNat + 1 ∨ y.2 &&& s.toNat = y.2) ∧ y.1.length ≤ k * 4294967296 + y.2 ∧ qh y.1 ∧ ∀ z,z ∈ y.1 ↔ sub z s ∧ (bsz z < k ∨ bsz z = k ∧ z.toNat < y.2)
def UpK (s:AS) (k:Nat) (l:List AS):Prop:=l.length ≤ k * 4294967296 ∧ qh l ∧ ∀ z,z ∈ l ↔ sub z s ∧ bsz z < k
abbrev pU (n:Nat):PC:=.one (.raw (.int .u64 (n:Int)))
abbrev vU (n:Nat):HR:=bc (.raw (.int .u64 (n:Int)))
theorem a96 {x s:AS} (h:x ≠ 0):d8 .and .u32 (asI x - 1) (asI s) = asI ((x - 1) &&& s):=by rw [aah h,kn]
theorem jz {α:Type} [Inhabited α] {wr wr':Bool} {e:TypeId} {c:α → Nat → PV} {x:α} {f:Nat → Nat → PV} (h:CoP (f 0 0) (c x 0)) (hw:wr' = true → wr = true:=by exact fun h=>h):CoO (.arr wr 1 e 1 f) (.arr wr' 1 e [x].length (lf c [x])) :=
 ⟨hw,rfl,rfl,rfl,fun i j hi hj=>by
  have hi:i < 1:=hi
  have hj:j < 1:=hj
  obtain rfl:j = 0:=by omega
  obtain rfl:i = 0:=by omega
  exact h⟩
end Go.Hx
end
section
namespace Go.Hx
open Go.Proofs
set_option maxRecDepth 100000
theorem are:ak Tryz.prog 21:=⟨Tryz.f21,Tryz.func21,by kernel_rfl,by kernel_rfl⟩
theorem auf (s:AS):aj Tryz.prog 21 [pA s] (ao [pP (asl (dn s))]):=by
 refine ai (nt:=23) ae Tryz.func21 rfl rfl l9 ?_;refine sx7 ?_;refine qy ?_;refine a6 ?_;refine a7 ?_;refine sx7 ?_;refine qy ?_;refine rc rfl rfl rfl rfl rfl rfl a4z (a85 s) (CoL.refl _) rfl rfl ?_
 refine qy ?_;refine a6 ?_;refine a8 _ rfl (fun r0=>?_) (fun r0=>?_)
 ·
  have h0:=of_decide_eq_true r0
  try simp only [ty] at h0
  refine sx7 ?_;refine qy ?_;refine a6 ?_
  exact hx8 rfl rfl rfl (⟨CoC.one (aea (amp h0)),trivial⟩)
 ·
  have h0:=of_decide_eq_false r0
  try simp only [ty] at h0
  refine aa ?_;refine sx7 ?_;refine qy ?_;refine m9 0 ?_;refine qy ?_;refine a6 ?_;refine a7 ?_;refine sx7 ?_;(iterate 2 refine qy ?_);refine a6 ?_;refine af ?_
  refine aw (ι:=List AS × AS) ⟨[(0,some _)],[]⟩ ⟨⟨c9,trivial⟩,trivial⟩ (fun y=>⟨[(3,some (.v (.one (.ref 0 y.1.length)))),(4,some (vA y.2))],[(0,some (.arr true 1 27 y.1.length (lf sC y.1)))]⟩) (fun y=>a3y s y) (fun y=>y.2.toNat) (([s],s)) (ahd s) ⟨⟨zy,zy,trivial⟩,⟨⟨_,rfl,(jz (CoP.refl _))⟩,trivial⟩⟩ ?_
  rintro y hy
  have hlen:=hy.2.1
  have hsl:=s.isLt
  refine a7 ?_;refine sx7 ?_;(iterate 2 refine qy ?_);refine a6 ?_;refine a8 _ rfl (fun r1=>?_) (fun r1=>?_)
  ·
   have h1:=r1
   have h1:=of_decide_eq_false (b7 h1)
   try simp only [ty] at h1
   have hne:y.2 ≠ 0:=fun e=>h1 (by rw [e];rfl)
   refine aa ?_;refine af ?_;refine sx7 ?_;refine qy ?_;refine rq rfl rfl rfl rfl rfl ?_ (hp:=(a88 hne));(iterate 3 refine qy ?_);refine a6 ?_;refine gy ?_;(iterate 2 refine qy ?_);refine m9 1 ?_
   refine ra 2 true rfl rfl rfl rfl rfl rfl ?_;refine qy ?_;refine a6 ?_;refine ⟨(y.1 ++ [(y.2 - 1) &&& s],(y.2 - 1) &&& s), ?_, ?_, ?_⟩
   · exact afs hy hne
   · exact vo hne
   · exact ⟨⟨⟨_,rfl,(dw rfl)⟩,⟨_,rfl,(j9 (a96 hne))⟩,c9,trivial⟩,⟨⟨_,rfl,(ec rfl (CoP.of_eq (by rw [a96 hne];rfl)))⟩,trivial⟩⟩
  ·
   have h1:=r1
   have h1:=of_decide_eq_true (b6 h1)
   try simp only [ty] at h1
   have hz:y.2 = 0:=fz.1 h1
   refine az ?_;refine a7 ?_;refine ep 3 rfl rfl rfl ?_;refine gy ?_;refine qy ?_;refine rc rfl rfl rfl rfl rfl rfl a48 (a4j y.1 (by omega)) (CoL.refl _) rfl rfl ?_;refine qy ?_;refine a6 ?_
   exact hx8 rfl rfl rfl (⟨CoC.one (CoP.of_eq (by rw [amo h0,ak3 hy hz])),trivial⟩)
end Go.Hx
end
section
namespace Go.Hx
def avk (l:List Fd) (p x:AS):Bool:=decide (clo l x &&& p ≠ x) && decide (clo l x &&& p ≠ p)
def alr (l:List Fd) (p:AS):Option AS:=(dn p).find? (avk l p)
def aw1 (l:List Fd) (p x:AS):Fd:=⟨x,(clo l x &&& p) &&& ~~~x⟩
def a7x (l:List Fd) (p:AS):Fd:=match alr l p with
 | some x=>aw1 l p x
 | none=>⟨0,0⟩
def qr (l:List Fd) (p:AS):Bool:=(alr l p).isSome
theorem a6x {s:AS}:∀ (n:Nat) (x:AS),(xb s n x).length ≤ x.toNat + 1
 | 0,x=>Nat.zero_le _
 | n + 1,x=>by
  unfold xb
  by_cases h0:x = 0
  · rw [if_pos h0];simp
  · rw [if_neg h0,List.length_cons]
    have h1:=a6x (s:=s) n ((x - 1) &&& s)
    have h2:=vo (s:=s) h0
    omega
theorem agt (s:AS):(dn s).length ≤ 4294967296:=by
 unfold dn wj
 have h1:=a6x (s:=s) (s.toNat + 1) s
 have h2:=a12 (xb s (s.toNat + 1) s)
 have h3:=s.isLt
 split
 · simp
 · omega
end Go.Hx
end
section
namespace Go.Hx
open Go.RowKit
section
variable {w0:World} {nt:Nat} {c:Ctx} {s:S} {a:Act} {w:World}
theorem al.short (h:al w0 nt c s a w) {id id' sz n m:Nat} {el:TypeId} {f:Nat → Nat → PV} (ho:s.o id = some (.arr true sz el n f)) (hm:m ≤ n) (hnm:NM s id') (hno:s.o id' = none) {u:Value} (hu:b5 c s.o (.win id n 0 m) u) :
 ∃ c',c'.old = c.old ∧ al w0 nt c' ((s.setO id none).setO id' (some (.arr true sz el m f))) a w ∧ aq c' ((s.setO id none).setO id' (some (.arr true sz el m f))).o (.v (.one (.ref id' m))) u:=by
 have hne:id ≠ id':=fun e=>by rw [← e,ho] at hno;cases hno
 obtain ⟨ad,ad',cap,q1,q2,q3,q4,q5,q6⟩:=rr hu ho rfl
 obtain ⟨h0,h1,h5⟩:=h.objs id _ ho
 have hold:∀ k ob,((s.setO id none).setO id' (some (.arr true sz el m f))).o k = some ob → k ≠ id' → s.o k = some ob ∧ k ≠ id:=fun k ob hk hk'=>by
  simp only [S.setO,if_neg hk'] at hk
  by_cases hki:k = id
  · subst hki;simp at hk
  · rw [if_neg hki] at hk;exact ⟨hk,hki⟩
 obtain ⟨bk,hbk,hok⟩:∃ bk:Nat → Prop,(∀ b,bk b → c.blk id b) ∧ ∀ c':Ctx,c'.imm = c.imm → c'.own id' = u → c'.blk id' = bk → ∀ o':au,d9 0 c' o' w id' (.arr true sz el m f):=by
  rcases h5 with ⟨h6,xs,h2,h4⟩ | ⟨h6 | h6,h7,h8⟩
  · obtain ⟨hxl,hrow⟩:=h2
    rcases hrow with ⟨hv0,hz⟩ | ⟨g,cap',cur,hown,hbase,hheap,hnc,hcm,hcs,htake⟩
    · rw [hv0] at q1
      simp only [Value.slice.injEq] at q1
      obtain ⟨rfl,_,rfl⟩:=q1
      obtain rfl:n = 0:=by omega
      obtain rfl:m = 0:=by omega
      refine ⟨noB,fun b hb=>hb.elim,fun c' e1 e2 e3 o'=>⟨h0,Nat.zero_le _, .inr ⟨.inr rfl,e3, ?_⟩⟩⟩
      rw [e2,q2]
      exact ⟨ad',0,rfl,Nat.le_refl _,Nat.zero_le _,fun _=>rfl,fun h=>absurd h (Nat.lt_irrefl 0)⟩
    · rw [hown] at q1
      simp only [Value.slice.injEq,true_and] at q1
      obtain ⟨rfl,rfl⟩:=q1
      by_cases hcap:cap' = 0
      · subst hcap
        obtain rfl:m = 0:=by omega
        refine ⟨noB,fun b hb=>hb.elim,fun c' e1 e2 e3 o'=>⟨h0,Nat.zero_le _, .inr ⟨.inr rfl,e3, ?_⟩⟩⟩
        rw [e2,q2]
        exact ⟨ad',0,rfl,Nat.le_refl _,Nat.zero_le _,fun _=>rfl,fun h=>absurd h (Nat.lt_irrefl 0)⟩
      · obtain rfl:=q6 (by omega)
        simp only [Option.map_some,cj,Nat.zero_mul,Nat.add_zero,Nat.sub_zero] at q2
        have hmul:m * sz ≤ n * sz:=Nat.mul_le_mul_right _ hm
        refine ⟨f0 u,fun b hb=>by rw [h6,hown];rw [q2] at hb;exact hb,fun c' e1 e2 e3 o'=>⟨h0,Nat.le_trans hm h1, .inl ⟨by rw [e2,e3],xs.take (m * sz),⟨by rw [List.length_take,hxl,Nat.min_eq_left hmul], .inr ⟨g,cap',cur,by rw [e2,q2],hbase,hheap,by omega,hcm,hcs, ?_⟩⟩,fun i j hi hj=>?_⟩⟩⟩
        · rw [← htake,List.take_take,Nat.min_eq_left hmul]
        · obtain ⟨x,hx,hr⟩:=h4 i j (by omega) hj
          refine ⟨x, ?_,by rw [e1];exact hr⟩
          rw [List.getElem?_take,if_pos (w9 hi hj)]
          exact hx
  · cases h6
  · subst h6
    obtain rfl:m = 0:=by omega
    refine ⟨noB,fun b hb=>hb.elim,fun c' e1 e2 e3 o'=>⟨h0,Nat.zero_le _, .inr ⟨.inr rfl,e3, ?_⟩⟩⟩
    obtain ⟨ad2,cap2,r1,r2,r3,r4,_⟩:=h8
    rw [q1] at r1
    simp only [Value.slice.injEq,true_and] at r1
    obtain ⟨rfl,rfl⟩:=r1
    obtain rfl:cap = 0:=r4 rfl
    rw [e2,q2]
    exact ⟨ad',0,rfl,Nat.le_refl _,Nat.zero_le _,fun _=>rfl,fun h=>absurd h (Nat.lt_irrefl 0)⟩
 have hevo:∀ k,k ≠ id' → Evo c s.o { c with own:=fun k=>if k = id' then u else c.own k,blk:=fun k=>if k = id' then bk else c.blk k } ((s.setO id none).setO id' (some (.arr true sz el m f))).o k:=fun k hk=>by
  by_cases hki:k = id
  · subst hki
    exact .inl (by simp [S.setO,hk])
  · exact Evo.of_same (by simp [S.setO,hk,hki]) (by simp [hk])
 refine ⟨{ c with own:=fun k=>if k = id' then u else c.own k,blk:=fun k=>if k = id' then bk else c.blk k },rfl,⟨h.defers,h.size,h.below,fun d x hx=>?_,fun k ob hk=>?_,fun i i' obi obi' b hi hi' hb hb'=>?_,h.imm,fun k ob b hk hb=>?_,h.was,h.frm,fun k ob b hk hb=>?_,fun k hk=>?_⟩, ?_⟩
 · exact (h.tmps d x hx).evo (Imm.le.refl c.imm) fun k hkm=>hevo k (by rintro rfl;exact hnm.1 d x hx hkm)
 · by_cases hk':k = id'
   · subst hk'
     obtain rfl:ob = .arr true sz el m f:=by simpa [S.setO] using hk.symm
     refine hok _ ?_ ?_ ?_ _ <;> first | rfl | exact if_pos rfl
   · obtain ⟨hk1,hk2⟩:=hold k ob hk hk'
     exact (h.objs k ob hk1).keep (Imm.le.refl c.imm) (by simp [hk']) (by simp [hk']) (fun j hj=>hevo j (by rintro rfl;exact hnm.2.1 k ob hk1 hj)) fun b _=>rfl
 · have hone:∀ k ob b,k ≠ id' → ((s.setO id none).setO id' (some (.arr true sz el m f))).o k = some ob → c.blk k b → bk b → False:=fun k ob b hk' hk hb hbb=>by
    obtain ⟨hk1,hk2⟩:=hold k ob hk hk'
    exact hk2 (h.inj k id ob _ b hk1 ho hb (hbk b hbb))
   by_cases e1:i = id'
   · by_cases e2:i' = id'
     · rw [e1,e2]
     · exact (hone i' obi' b e2 hi' (by simpa [e2] using hb') (by simpa [e1] using hb)).elim
   · by_cases e2:i' = id'
     · exact (hone i obi b e1 hi (by simpa [e1] using hb) (by simpa [e2] using hb')).elim
     · exact h.inj i i' obi obi' b (hold i obi hi e1).1 (hold i' obi' hi' e2).1 (by simpa [e1] using hb) (by simpa [e2] using hb')
 · by_cases hk':k = id'
   · exact h.sep id _ b ho (hbk b (by simpa [hk'] using hb))
   · exact h.sep k ob b (hold k ob hk hk').1 (by simpa [hk'] using hb)
 · by_cases hk':k = id'
   · exact h.fsep id _ b ho (hbk b (by simpa [hk'] using hb))
   · exact h.fsep k ob b (hold k ob hk hk').1 (by simpa [hk'] using hb)
 · exact (h.fixed k hk).trans (hevo k (by have:=hnm.2.2;omega))
 · refine ⟨hu.1,fun l=>by simp [S.setO],fun ob2 s2 e2 n2 ho2 hd2=>?_⟩
   simp only [S.setO,if_true,Option.some.injEq] at ho2
   subst ho2
   simp only [ah.dim,Option.some.injEq,Prod.mk.injEq] at hd2
   obtain ⟨rfl,rfl,rfl⟩:=hd2
   exact ⟨Nat.le_refl _,fun _=>by simp⟩
end
section
variable {ro:Option Nat} {P:Program} {nt:Nat} {st:HSt} {Q:Exit → HSt → Prop}
theorem ajk {c:Code} (d id2:Nat) {id n n' i m s:Nat} {e:TypeId} {f:Nat → Nat → PV} (hd:bn st.t d = some (.v (.one (.win id n i m)))) (ho:bn st.o id = some (.arr true s e n' f)) (hn:n' = n) (hi:i = 0) (hm:m ≤ n) (hnew:o6 id2 st = true)
 (h:HW (ro:=ro) P nt c ⟨(d,some (.v (.one (.ref id2 m)))) :: st.t,(id2,some (.arr true s e m f)) :: (id,none) :: st.o⟩ Q):HW (ro:=ro) P nt c st Q:=by
 subst hn hi
 obtain ⟨hnm,hno⟩:=gt hnew
 refine w7 ⟨st.t,(id2,some (.arr true s e m f)) :: (id,none) :: st.o⟩ d (.v (.one (.ref id2 m))) (fun w0 m0 a w hr=>?_) h
 obtain ⟨cc,hold,hrr⟩:=hr
 obtain ⟨c',e1,e2,e3⟩:=hrr.short ho hm hnm hno (hrr.tmps d _ hd)
 have e4:(HSt.den ⟨st.t,(id2,some (.arr true s e m f)) :: (id,none) :: st.o⟩) = (st.den.setO id none).setO id2 (some (.arr true s e m f)):=by
  unfold HSt.den S.setO
  simp [bq]
 exact ⟨c',e1.trans hold,by rw [e4];exact e2,by rw [e4];exact e3⟩
theorem yz {c:Code} (d id2:Nat) {id n n' s:Nat} {e:TypeId} {f:Nat → Nat → PV} (hd:bn st.t d = some (.v (.one (.ref id n)))) (ho:bn st.o id = some (.arr true s e n' f)) (hn:n' = n) (hnew:o6 id2 st = true)
 (h:HW (ro:=ro) P nt c ⟨(d,some (.v (.one (.ref id2 n)))) :: st.t,(id2,some (.arr true s e n f)) :: (id,none) :: st.o⟩ Q):HW (ro:=ro) P nt c st Q:=by
 subst hn
 obtain ⟨hnm,hno⟩:=gt hnew
 refine w7 ⟨st.t,(id2,some (.arr true s e n' f)) :: (id,none) :: st.o⟩ d (.v (.one (.ref id2 n'))) (fun w0 m0 a w hr=>?_) h
 obtain ⟨cc,hold,hrr⟩:=hr
 have hu:b5 cc st.den.o (.ref id n') (a.tmps.getD d undef):=hrr.tmps d _ hd
 have hw:b5 cc st.den.o (.win id n' 0 n') (a.tmps.getD d undef):=by
  refine ⟨hu.1,hu.2.1,fun ob s2 e2 n2 ho2 hd2=>⟨(hu.2.2 _ _ _ _ ho2 hd2).1,fun hk=>?_⟩⟩
  have he:=(hu.2.2 _ _ _ _ ho2 hd2).2 hk
  obtain rfl:ob = .arr true s e n' f:=Option.some.inj (ho2.symm.trans ho)
  simp only [ah.dim,Option.some.injEq,Prod.mk.injEq] at hd2
  obtain ⟨rfl,rfl,rfl⟩:=hd2
  obtain ⟨ad,cap,hv,hc1,hc2⟩:=rn (hrr.objs _ _ ho2)
  exact ⟨ad,ad,cap,hv,by rw [he,hv];rfl,by omega,hc1,hc2,fun _=>by cases ad <;> simp [kd]⟩
 obtain ⟨c',e1,e2,e3⟩:=hrr.short ho (Nat.le_refl _) hnm hno hw
 have e4:(HSt.den ⟨st.t,(id2,some (.arr true s e n' f)) :: (id,none) :: st.o⟩) = (st.den.setO id none).setO id2 (some (.arr true s e n' f)):=by
  unfold HSt.den S.setO
  simp [bq]
 exact ⟨c',e1.trans hold,by rw [e4];exact e2,by rw [e4];exact e3⟩
end
end Go.Hx
end
section
namespace Go.Hx
theorem gj {id n m:Nat} (h:n = m):CoR (.v (.one (.ref id n))) (.v (.one (.ref id m))):=by rw [h];exact CoR.refl _
end Go.Hx
end
section
namespace Go.Hx
def ap5 (l:List Fd) (p:AS):Int:=if dy 16 l = 0 then (if 8 < bsz p then 3 else if p >>> 16 = 0 then 0 else 1) else dy 16 l
def ay1 (l:List Fd) (p:AS):Fd:=if ap5 l p = 0 then a7x l p else ⟨0,0⟩
def axj (l:List Fd) (p:AS):Bool:=decide (ap5 l p = 0) && qr l p
def bcP (n:Int) (l:List Fd) (f:Fd):Bool:=decide (f.rhs &&& ~~~f.lhs ≠ 0) && decide (clo l f.lhs ≠ am n)
def bcS (n:Int) (l:List Fd):Bool:=decide (dy n l = 0) && !l.any (bcP n l)
def aeg (n:Int) (l:List Fd):List AS:=if a2h n l 8 = 0 then (dn (am n)).filter fun s=>!qr l s else []
end Go.Hx
end
section
namespace Go.Hx
def alw (l:List Fd) (p z:AS):AS:=(p &&& clo l (z &&& p)) &&& ~~~z
def auo (l:List Fd) (z p:AS):Bool:=decide (alw l p z ≠ 0)
def akv (l:List Fd) (ps:List AS):Nat → AS → AS
 | 0,z=>z
 | n + 1,z=>match ps.find? (auo l z) with
  | none=>z
  | some p=>akv l ps n (z ||| alw l p z)
def aj0 (l:List Fd) (ps:List AS) (z:AS):AS:=akv l ps 4294967297 z
def ae9 (l:List Fd) (ps:List AS) (f:Fd):Bool:=decide (sub f.rhs (aj0 l ps f.lhs))
def axx (l:List Fd) (ps:List AS) (z0:AS) (x:Nat × List Nat × AS):Prop:=akv l ps x.1 x.2.2 = aj0 l ps z0 ∧ 4294967296 < x.1 + x.2.2.toNat ∧ x.2.1.length + x.1 = 4294967297
def awz (l:List Fd) (ps:List AS) (i:Nat):List Nat:=(List.range i).filter fun j=>!ae9 l ps (l.getD j default)
def apr (l:List Fd) (ps:List AS):Bool:=(List.range l.length).all fun j=>ae9 l ps (l.getD j default)
end Go.Hx
end
section
namespace Go.Hx
open Go.RowKit
def axf (P:Program) (g:FuncId) (caps:List PC) (n:Nat) (xs:Nat → List PC):Prop :=
 ∀ (imm:Imm) (_:o8 imm) (us:List Value) (W:World) (l:Nat) (J:Nat → World → Prop),c5 imm caps us →
  (∀ i A,J i A → ∀ b ob,imm b = some ob → A.heap[b]? = some ob) →
  (∀ i A A',J i A → Below A.heap.size A A' → J i A') →
  (∀ i A vs,i < n → J i A → c5 imm (xs i) vs → YieldAt (rf none) 0 P l vs.toArray A fun e A'=>e = .returned (.bool true) ∧ J (i + 1) A') →
  J 0 W → CallsIn (rf none) 0 P g (#[.func (.yield l) #[] #[]] ++ us.toArray) W fun e W'=>(∃ v,e = .returned v) ∧ J n W'
section
variable {P:Program} {nt:Nat} {c:Ctx} {s:S} {a:Act} {w w0:World}
end
def arn (r:Nat → Nat):List (Nat × Option HR) → List (Nat × Option HR)
 | []=>[]
 | (d,some x) :: l=>(d,some (x.ren r)) :: arn r l
 | (d,none) :: l=>(d,none) :: arn r l
def rgB (r:Nat → Nat) (T:List (Nat × Option HR)) (o1 o2:List (Nat × ah)) (fx:List Nat):Bool :=
 (fx.all fun id=>Nat.ble 1000 (r id)) && ((cq o2).all fun id=>(p9 fx id && p9 (cq o1) id) || (Nat.blt id 1000 && nmT id T)) && (a5x o2).all (p9 (cq o2))
def ay7 (P:Program) (nt l:Nat) (body:Code) (Q:HSt → Prop) (e:Exit) (st:HSt):Prop:=e = .normal ∧ HW (ro:=some l) P nt body st fun e st=>e = .normal ∧ Q st
section
variable {P:Program} {E:Env} {nt:Nat} {ops:Array Oper} {i:Nat} {o:Oper} {Q:Exit → Act → World → Prop} {a:Act} {A:World} {imm:Imm}
def aqr (d:Option Tmp) (x:HR) (t:List (Nat × Option HR)):List (Nat × Option HR):=match d with | some d=>(d,some x) :: t | none=>t
class TabC (imm:Imm):Prop where
 ok:o8 imm
def cI (imm:Imm) (A:World) [ht:TabC imm]:Ctx:={ old:=(imm,du A,(fun _=>undef),(fun _=>none),fun _ _=>undef),imm:=imm,tab:=ht.ok,own:=fun _=>undef,blk:=fun _=>noB,rows:=fun _ _=>undef }
variable [TabC imm]
structure It (imm:Imm) [TabC imm] (nt:Nat) (t:List (Nat × Option HR)) (a:Act) (A:World):Prop where
 defers:a.defers = []
 rel:al A nt (cI imm A) ⟨bn t,fun _=>none⟩ a A
theorem It.sub {t t':List (Nat × Option HR)} (h:It imm nt t a A) (hs:yb t' t):It imm nt t' a A :=
 ⟨h.defers,h.rel.relax ⟨bn t',fun _=>none⟩ (fun d x hx=>tz hs d x hx) (fun id ob ho=>by cases ho)⟩
theorem It.move {t:List (Nat × Option HR)} {A':World} (h:It imm nt t a A) (hi:∀ b ob,imm b = some ob → A'.heap[b]? = some ob):It imm nt t a A':=by
 refine ⟨h.defers,by rw [h.defers];exact o7.nil _ _ _ _,h.rel.size,Below.refl _ _,fun d x hx=>?_,(fun id ob ho=>by cases ho),(fun i i' ob ob' b ho=>by cases ho),hi,(fun id ob b ho=>by cases ho),fun b _=>rfl,fun b ob hb=>hb,(fun id ob b ho=>by cases ho),fun id _=>.inl rfl⟩
 exact aq.evo (c:=cI imm A) (o:=fun _=>none) (Imm.le.refl imm) (fun _ _=>.inl rfl) (h.rel.tmps d x hx)
theorem It.put {t:List (Nat × Option HR)} (h:It imm nt t a A) {d:Option Tmp} (hd:c4 nt d = true) (x:HR) (v:Value) (hx:aq (cI imm A) (fun _=>none) x v):It imm nt (aqr d x t) (a.put d v) A:=by
 cases d with
 | none=>exact h
 | some d =>
  have:=h.rel.put d (of_decide_eq_true hd) (some x) v (fun y hy=>by cases hy;exact hx)
  refine ⟨h.defers, ?_⟩
  have e:(S.put ⟨bn t,fun _=>none⟩ d (some x)) = ⟨bn ((d,some x) :: t),fun _=>none⟩:=by
   unfold S.put
   simp [bq]
  rw [e] at this
  exact this
theorem an9 {t:List (Nat × Option HR)} (h:It imm nt t a A) {x:Operand} {r:HR} (hx:ev ⟨bn t,fun _=>none⟩ x = some r):aq (cI imm A) (fun _=>none) r (a.eval x):=ab h.rel hx
theorem iy {t:List (Nat × Option HR)} {L:List Nat} {cl:Call} {f:Operand} {l:Nat} {R:World → Prop} (h:It imm nt t a A) (hi:ops[i]? = some o) (hw:ax ops ⟨bn t,fun _=>none⟩ o = some true) (hd:c4 nt o.dst = true) (ho:o.op = .call cl) (hcl:cl.callee = .value f) (hf:ev ⟨bn t,fun _=>none⟩ f = some (bc (.raw (.func (.yield l) #[] #[]))))
 (hy:YieldAt (rf none) 0 P l (cl.args.toList.map a.eval).toArray A fun e A'=>e = .returned (.bool true) ∧ R A') (him:∀ A',R A' → ∀ b ob,imm b = some ob → A'.heap[b]? = some ob)
 (hK:∀ a' A',R A' → It imm nt (aqr o.dst (bc (.raw (.bool true))) t) a' A' → wpOpsIn (rf none) 0 P ops Q L a' A'):wpOpsIn (rf none) 0 P ops Q (i :: L) a A:=by
 rw [wpOpsIn_cons]
 unfold wpOpIn
 simp only [hi]
 rw [if_pos (dm h.rel hw)]
 obtain ⟨fn,tmps,assign,body,hyr,hround⟩:=hy
 have hfe:a.eval f = .func (.yield l) #[] #[]:=(an9 h hf).1
 refine ⟨fun _ _=>trivial, ?_⟩
 have hsem:Oper.semAt (rf none).round a.eval o = execOp a.eval o:=rfl
 rw [hsem]
 have hma:(cl.args.toList.map a.eval).toArray = cl.args.map a.eval:=by apply Array.toList_inj.1;rw [Array.toList_map]
 rw [hma] at hyr
 have hrun:(execOp a.eval o).run P A = .ok (.round l fn tmps assign body) A:=by
  simp only [execOp,ho,resolve,hcl,hfe,Sem.run_bind,Deferred.ofValue,Sem.run_pure,Result.andThen_ok,invoke]
  simpa using hyr
 rw [hrun,Oper.uponIn_round]
 refine ⟨fun hh=>absurd hh (by simp [rf]),hround.mono ?_⟩
 rintro e A' ⟨rfl,hR⟩
 exact hK _ A' hR ((h.move (him A' hR)).put hd (bc (.raw (.bool true))) (.bool true) ⟨rfl,rfl⟩)
end
theorem CoP.vp {k k':Nat} {f f':Nat → PV} (hk:k' = k) (hf:∀ j,j < k → CoP (f j) (f' j)):CoP (.vp k f) (.vp k' f'):=by
 subst hk
 rintro m u ⟨b,off,rfl,h⟩
 exact ⟨b,off,rfl,fun j hj=>by
  obtain ⟨x,hx,hr⟩:=h j hj
  exact ⟨x,hx,hf j hj m x hr⟩⟩
theorem CoP.fn {g:FuncId} {k k':Nat} {f f':Nat → PV} (hk:k' = k) (hf:∀ j,j < k → CoP (f j) (f' j)):CoP (.fn g k f) (.fn g k' f'):=by
 subst hk
 rintro m u ⟨cs,rfl,hl,h⟩
 exact ⟨cs,rfl,hl,fun j hj=>by
  obtain ⟨x,hx,hr⟩:=h j hj
  exact ⟨x,hx,hf j hj m x hr⟩⟩
def RN (P:Program) (nt:Nat) (ops:Array Oper) (L:List Nat) (st:HSt) (Q:HSt → Prop):Prop :=
 ∀ (ro:Option Nat) (n:Nat) w0 m0 a w (QQ:Exit → Act → World → Prop),Rel w0 m0 nt st.den a w → (∀ st' a' w',Q st' → Rel w0 m0 nt st'.den a' w' → QQ .normal a' w') → wpOpsIn (rf ro) n P ops QQ L a w
section
variable {P:Program} {E:Env} {nt:Nat} {ops:Array Oper} {st:HSt}
theorem a1v (hE:bz P E) {ro:Option Nat} {n:Nat} {w0:World} {m0:Old} {sf:S} {L2:List Nat} {QQ:Exit → Act → World → Prop} (hQ:∀ a' w',Rel w0 m0 nt sf a' w' → wpOpsIn (rf ro) n P ops QQ L2 a' w') :
 ∀ (T:List Tr) (s:S) (a:Act) (w:World),j8 P E nt ops T s sf → Rel w0 m0 nt s a w → wpOpsIn (rf ro) n P ops QQ (T.map (·.i) ++ L2) a w
 | [],s,a,w,hT,hr=>by
  cases hT
  exact hQ _ _ hr
 | t :: T,s,a,w,hT,hr=>by
  cases hT with
  | cons hi he hR hO hF hrest =>
  rw [List.map_cons,List.cons_append,wpOpsIn_cons]
  exact a05 hE he hr hi fun a' w' hr'=>a1v hE hQ T _ a' w' hrest hr'
theorem gl (hE:bz P E) {L1 L2:List Nat} {Q:HSt → Prop} (h:Reg P E nt ops L1 st fun _ sf=>RN P nt ops L2 sf Q):RN P nt ops (L1 ++ L2) st Q:=fun ro n w0 m0 a w QQ hr hQ=>by
 obtain ⟨T,sf,hl,hT,h⟩:=h
 rw [← hl]
 exact a1v hE (fun a' w' hr'=>h ro n w0 m0 a' w' QQ hr' hQ) T _ a w hT hr
theorem lm {Q:HSt → Prop} (h:Q st):RN P nt ops [] st Q:=fun ro n w0 m0 a w QQ hr hQ=>hQ st a w h hr
theorem alm {L:List Nat} {Q:HSt → Prop} (h:HE nt st fun st'=>RN P nt ops L st' Q):RN P nt ops L st Q:=fun ro n w0 m0 a w QQ hr hQ=>by
 obtain ⟨st',h1,h2⟩:=h w0 m0 a w hr
 exact h1 ro n w0 m0 a w QQ h2 hQ
theorem gf {ro:Option Nat} {Q:Exit → HSt → Prop} {id:Nat} (L1 L2:List Nat) (hl:List.range ops.size = L1 ++ L2) (h:RN P nt ops (L1 ++ L2) st (Q .normal)):HW (ro:=ro) P nt (.region id ops false) st Q:=fun w0 m0 a w hr=>by
 refine wpIn_region ?_
 rw [hl]
 exact h ro 0 w0 m0 a w _ hr fun st' a' w' hq hr'=>⟨st',hq,hr'⟩
theorem ap7 {Q:HSt → Prop} (st1:HSt) (d:Nat) (x:HR) (hs:∀ w0 m0 a w,Rel w0 m0 nt st.den a w → ∃ cc,cc.old = m0 ∧ al w0 nt cc st1.den a w ∧ aq cc st1.den.o x (a.tmps.getD d undef))
 (h:HE nt ⟨(d,some x) :: st1.t,st1.o⟩ Q):HE nt st Q:=fun w0 m0 a w hr=>by
 obtain ⟨cc,hold,hrr,hx⟩:=hs w0 m0 a w hr
 refine h w0 m0 a w ⟨cc,hold,hrr.defers,hrr.size,hrr.below,fun k y hy=>?_,hrr.objs,hrr.inj,hrr.imm,hrr.sep,hrr.was,hrr.frm,hrr.fsep,hrr.fixed⟩
 simp only [HSt.den] at hy
 rw [bq] at hy
 dsimp only at hy
 split at hy
 · rename_i hk
   subst hk
   simp only [Option.some.injEq] at hy
   subst hy
   exact hx
 · exact hrr.tmps k y hy
theorem a6h {Q:HSt → Prop} (d:Nat) {id n n' s:Nat} {wr:Bool} {e:TypeId} {f:Nat → Nat → PV} (hd:bn st.t d = some (.v (.one (.ref id n)))) (ho:bn st.o id = some (.arr wr s e n' f)) (hn:n' = n)
 (h:HE nt ⟨(d,some (bc (.sl n s false f))) :: st.t,(id,none) :: st.o⟩ Q):HE nt st Q:=by
 subst hn
 refine ap7 ⟨st.t,(id,none) :: st.o⟩ d (bc (.sl n' s false f)) (fun w0 m0 a w hr=>?_) h
 obtain ⟨cc,hold,hrr⟩:=hr
 refine ⟨_, ?_,by rw [wn];exact hrr.freeze ho, ?_⟩
 · exact hold
 · obtain ⟨_,_,h3⟩:=hrr.tmps d _ hd
   have:=(h3 _ _ _ _ ho rfl).2 rfl
   rw [this]
   exact nx hrr ho
end
end Go.Hx
end
section
namespace Go.Hx
def orL (ps:List AS):AS:=ps.foldl (· ||| ·) 0
def aup (n:Int) (l:List Fd) (ps:List AS):Bool:=decide (orL ps = am n) && apr l ps && ps.any (a5g n l)
def auu (n:Int) (l:List Fd) (ps:List AS) (s:AS):List AS:=if aup n l (ps.eraseIdx (idx (fun x=>decide (x = s)) ps).toNat) = true then ps.eraseIdx (idx (fun x=>decide (x = s)) ps).toNat else ps
def aed (n:Int) (l:List Fd) (p0:List AS):Nat → List AS
 | 0=>p0
 | i + 1=>auu n l (aed n l p0 i) (p0.getD (p0.length - 1 - i) default)
def acf (n:Int) (l:List Fd):Bool:=apr l (aeg n l)
def ax7 (n:Int) (l:List Fd):List AS:=if a2h n l 8 = 0 ∧ acf n l = true then aed n l (a34 (aeg n l)) (a34 (aeg n l)).length else []
def ax0 (n:Int) (l:List Fd):Bool:=decide (a2h n l 8 = 0) && acf n l
def axn (n:Int) (l:List Fd) (p0:List AS) (i:Nat) (ps:List AS):Prop:=ps = aed n l p0 i ∧ ps.length ≤ p0.length ∧ ∀ j,j < p0.length - i → p0.getD j default ∈ ps
def aos (n:Int) (l:List Fd):Option Fd:=(aeq n l).find? fun f=>!ae9 l (aeg n l) f
def ayk (n:Int) (l:List Fd):Int:=if a2h n l 8 = 0 then (match aos n l with | some _=>0 | none=>4) else a2h n l 8
def ayj (n:Int) (l:List Fd):Fd:=if a2h n l 8 = 0 then (match aos n l with | some f=>f | none=>⟨0,0⟩) else ⟨0,0⟩
end Go.Hx
end
