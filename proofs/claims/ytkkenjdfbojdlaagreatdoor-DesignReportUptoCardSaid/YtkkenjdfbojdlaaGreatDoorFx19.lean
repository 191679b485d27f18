/- A part of the proof: SrW Cs10 V8 Cs11 Gr V9 Cs12 V10 Cs13. -/
import Derived.Shelf.SlSortCmp.NoneTotal
import Derived.Test.YtkkenjdfbojdlaaGreatDoorFx14
import Derived.Test.YtkkenjdfbojdlaaGreatDoorFx17
import Derived.Test.YtkkenjdfbojdlaaGreatDoorFx18
set_option linter.all false
set_option maxRecDepth 100000
set_option maxHeartbeats 1000000
namespace Go.Hx
section
open Go.Proofs Go.RowKit Go.Sort
theorem alg {w w':World} (h:Below w.heap.size w w'):∃ q os,w' = grow (w.drewN q) os:=by
 refine ⟨w'.drawn - w.drawn,w'.heap.extract w.heap.size w'.heap.size, ?_⟩
 have hd:=h.drawn
 obtain ⟨h1,h2,h3,h4,h5,_⟩:=h
 cases w with
 | mk hp tp dr os out =>
 cases w' with
 | mk hp' tp' dr' os' out' =>
 dsimp only at *
 subst h1 h2 h3
 unfold grow World.drewN
 simp only [World.mk.injEq,true_and,and_true]
 refine ⟨?_,by omega⟩
 apply Array.ext_getElem?
 intro k
 rw [Array.getElem?_append]
 by_cases hk:k < hp.size
 · rw [if_pos hk,h5 k hk]
 rw [if_neg hk,Array.getElem?_extract]
 by_cases hk2:k < hp'.size
 · rw [if_pos (by omega)]
   congr 1
   omega
 rw [if_neg (by omega),Array.getElem?_eq_none (by omega)]
theorem alx {α:Type} [Inhabited α] {enc:α → Value} {w:World} {g m:Nat} {d:Array α} {os:Array Obj} {cur:Array Value} {e:TypeId} {fr:Nat × Nat} (h:w.heap[g]? = some (.cells cur e fr)) :
 (sortWorld enc w g 0 m d os).heap[g]? = some (.cells (putCells enc 0 d cur) e fr):=by
 have hlt:=(Array.getElem?_eq_some_iff.1 h).1
 unfold sortWorld
 rw [heap_grow_old _ _ (by simpa using hlt)]
 unfold putRow mapBlock
 simp only [heap_ahead,Array.getElem?_modify,if_true,h]
 rfl
theorem a1o {α:Type} [Inhabited α] {enc:α → Value} {w:World} {g m:Nat} {d:Array α} {os:Array Obj} {b:Nat} (hb:b < w.heap.size) (hne:b ≠ g):(sortWorld enc w g 0 m d os).heap[b]? = w.heap[b]?:=by
 unfold sortWorld
 rw [heap_grow_old _ _ (by simpa using hb)]
 unfold putRow mapBlock
 simp only [heap_ahead,Array.getElem?_modify,if_neg (Ne.symm hne)]
theorem am5 {α:Type} [Inhabited α] {enc:α → Value} {w:World} {g m:Nat} {d:Array α} {os:Array Obj}:Below 0 w (sortWorld enc w g 0 m d os) :=
 ⟨rfl,rfl,rfl,by unfold sortWorld;simp,fun k hk=>absurd hk (Nat.not_lt_zero k),by unfold sortWorld grow;simp⟩
theorem awd {α:Type} [Inhabited α] {enc:α → Value} {d:Array α} {cur:Array Value} (h:d.size ≤ cur.size):(putCells enc 0 d cur).toList.take d.size = d.toList.map enc:=by
 apply List.ext_getElem?
 intro k
 rw [List.getElem?_take,List.getElem?_map,Array.getElem?_toList,Array.getElem?_toList]
 by_cases hk:k < d.size
 · rw [if_pos hk]
   unfold putCells
   rw [Array.getElem?_mapIdx,Array.getElem?_eq_getElem (by omega),Array.getElem?_eq_getElem hk]
   simp only [Option.map_some,Nat.zero_add,Nat.sub_zero]
   rw [if_pos ⟨Nat.zero_le _,hk⟩,getElem!_pos d k hk]
 rw [if_neg hk,Array.getElem?_eq_none (by omega)]
 rfl
theorem apx {P:Program} {ρ:Go.Shelf.Ren} {α:Type} [Inhabited α] (L:SlLaysF.n6 P ρ) (enc:α → Value) (h1:∀ x,(enc x).oneCell' = true) (cf:α → α → Int) (hO:SWO (ltOf cf)) (hT:∀ x y,(ltOf cf) x y = false → (ltOf cf) y x = false → x = y)
 (g:Nat) (caps:Nat → PV) (hg:∀ args w,(callFunc g args).run P w = .ok (.enter g args) w) (hc:∀ x y,af P g [.one (.raw (enc x)), .one (.raw (enc y))] (aj [.one (.raw (.int .i64 (cf x y)))])) (id:Nat) (e:TypeId) (l:List α) (hsz:l.length ≤ 8589934592) :
 dw P (ρ.f 6) [.one (.ref id l.length), .one (.p (.fn g 0 caps))] [(id, .arr true 1 e l.length (lf (fun x _=>.raw (enc x)) l))] (.tup [])
  [(id, .arr true 1 e l.length (lf (fun x _=>.raw (enc x)) (l.mergeSort fun x y=>!(ltOf cf) y x)))] [id]:=by
 intro w c us hM hus
 match us,hus with
 | [u,v],⟨hu,hv,_⟩ =>
  obtain ⟨cs,rfl,hcl,_⟩:=hv
  have hcs:cs = []:=List.eq_nil_of_length_eq_zero hcl
  subst hcs
  have hl1:lk [(id,ai.arr true 1 e l.length (lf (fun x _=>.raw (enc x)) l))] id = some (.arr true 1 e l.length (lf (fun x _=>.raw (enc x)) l)):=by simp [lk]
  have hu2:=(hu.2.2 _ _ _ _ hl1 rfl).2 rfl
  subst hu2
  have hob:=hM.objs id _ hl1
  obtain ⟨h0,hmax,h5⟩:=hob
  have hlen:(l.mergeSort fun x y=>!(ltOf cf) y x).length = l.length:=List.length_mergeSort _
  have hev:∀ f':Nat → Nat → PV,Evo c (lk [(id,ai.arr true 1 e l.length (lf (fun x _=>.raw (enc x)) l))]) c (lk [(id,ai.arr true 1 e l.length f')]) id:=fun f' =>
   .inr (.inr ⟨_, .arr true 1 e l.length f',1,e,l.length,l.length,hl1,rfl,by simp [lk],rfl,Nat.le_refl _,fun _=>rfl,fun _ _ _ _ _ _ _ h=>by cases h⟩)
  rcases Nat.eq_zero_or_pos l.length with hz | hpos
  ·
   have hl:l = []:=List.eq_nil_of_length_eq_zero hz
   subst hl
   have hform:∃ ad cap,c.own id = .slice ad 0 cap:=by
    rcases h5 with ⟨_,xs,h2,_⟩ | ⟨_,_,ad,cap,hv,_⟩
    · rcases h2.2 with ⟨hv,_⟩ | ⟨g,cap,cur,hv,_⟩
      · exact ⟨none,0,hv⟩
      exact ⟨_,cap,hv⟩
    exact ⟨ad,cap,hv⟩
   obtain ⟨ad,cap,hown⟩:=hform
   have hms:([]:List α).mergeSort (fun x y=>!(ltOf cf) y x) = []:=by simp
   rw [hown,hms]
   refine (AnyF.slices_SortFunc_none { L with } ad cap (.func (.func g) #[] #[]) w).mono ?_
   rintro e' w' ⟨rfl,rfl⟩
   exact ⟨_,c,rfl,⟨[],rfl,trivial⟩,hM,Below.refl _ _,fun _ _ _=>⟨rfl,rfl⟩,fun id0 ob b ho hb=>.inr ⟨id0,ob,ho,hb⟩,fun id0 hid=>by
    rw [List.mem_singleton.1 hid]
    exact Evo.refl _ _ _⟩
  obtain ⟨h6,xs,h2,h4⟩:c.blk id = iw (c.own id) ∧ ∃ xs,w.ownsRow 0 e 1 (c.own id) l.length xs ∧ ∀ i j,i < l.length → j < 1 → ∃ x,xs[i * 1 + j]? = some x ∧ ay c.imm (lf (fun x _=>.raw (enc x)) l i j) x:=by
   rcases h5 with h5 | ⟨h6 | h6,_⟩
   · exact h5
   · cases h6
   omega
  obtain ⟨hxl,hrow⟩:=h2
  rcases hrow with ⟨_,hz⟩ | ⟨b,cap,cur,hown,hbase,hheap,hnc,hcm,hcs,htake⟩
  · omega
  have hblk:c.blk id b:=by rw [h6,hown];rfl
  have hlt:b < w.heap.size:=(Array.getElem?_eq_some_iff.1 hheap).1
  have hcell:∀ j,(hj:j < l.length) → cur[j]? = some (enc l[j]):=fun j hj=>by
   obtain ⟨x,hx,hr⟩:=h4 j 0 hj (by omega)
   rw [Nat.mul_one,Nat.add_zero,← htake,List.getElem?_take,if_pos (by omega),Array.getElem?_toList] at hx
   rw [hx]
   have hr:x = enc (l.getD j default) ∧ _:=hr
   rw [hr.1,List.getD_eq_getElem?_getD,List.getElem?_eq_getElem hj]
   rfl
  have hH:Holds enc w b 0 l.toArray:=fun j hj=>by
   have hj:j < l.length:=by simpa using hj
   rw [Nat.zero_add]
   refine ⟨?_,by simp [World.frozen?,hheap]⟩
   have:l.toArray[j]! = l[j]:=by rw [getElem!_pos l.toArray j (by simpa using hj)];simp
   rw [this]
   simp [World.cell?,hheap,hcell j hj]
  have hcmp:CmpLays1 P g #[] enc cf b 0 l.toArray.size w:=by
   intro m os dk hdk x y
   have hcimm:∀ b' ob,c.imm b' = some ob → (sortWorld enc w b 0 m dk os).heap[b']? = some ob:=fun b' ob hb'=>by
    have hne:b' ≠ b:=fun he=>by
     have:=hM.sep id _ b hl1 hblk
     rw [← he,hb'] at this
     cases this
    have hw:=hM.imm b' ob hb'
    rw [a1o (Array.getElem?_eq_some_iff.1 hw).1 hne]
    exact hw
   have h:=hc x y (sortWorld enc w b 0 m dk os) c.imm [enc x,enc y] c.tab hcimm ⟨⟨rfl,h1 x⟩,⟨rfl,h1 y⟩,trivial⟩
   refine h.mono ?_
   rintro e' w' ⟨v,imm',rfl,hr,_,_,hb⟩
   obtain ⟨q,os',hq⟩:=alg hb
   exact ⟨by rw [hr.1],q,os',hq⟩
  have hS:=Any.slices_SortFunc_total L enc h1 cf hO g #[] b 0 cap l.toArray w hg hcmp hH hlt (by rw [List.size_toArray];omega) hT
  rw [hown]
  refine Calls.mono hS ?_
  rintro e' w' ⟨rfl,m,os,rfl⟩
  generalize hSd:(l.mergeSort fun x y=>!(ltOf cf) y x) = S at *
  refine ⟨_,c,rfl,⟨[],rfl,trivial⟩,⟨fun id0 ob ho=>?_,fun id0 id1 ob0 ob1 b' ho0 ho1 _ _=>(ip ho0).1.trans (ip ho1).1.symm,fun b' ob hb'=>?_,fun id0 ob b' ho hb'=>?_⟩,am5,
   fun b' hb' hno=>⟨a1o hb' (fun he=>hno id _ hl1 (by rw [he];exact hblk)),rfl⟩,fun id0 ob b' ho hb'=>.inr ⟨id,_,hl1,by rw [← (ip ho).1];exact hb'⟩,fun id0 hid=>by
    rw [List.mem_singleton.1 hid]
    exact hev _⟩
  · obtain ⟨rfl,rfl⟩:=ip ho
    refine ⟨h0,hmax, .inl ⟨h6,S.map enc,⟨by simp [hlen], .inr ⟨b,cap,putCells enc 0 S.toArray cur,hown,hbase,alx hheap,hnc,hcm,by simpa [putCells] using hcs, ?_⟩⟩,fun i j hi hj=>?_⟩⟩
    · have:=awd (enc:=enc) (d:=S.toArray) (cur:=cur) (by rw [List.size_toArray,hlen,hcs];omega)
      rw [List.size_toArray,hlen] at this
      rw [Nat.mul_one]
      exact this
    obtain rfl:j = 0:=by omega
    have hi':i < S.length:=by rw [hlen];exact hi
    refine ⟨enc S[i], ?_, ?_⟩
    · rw [Nat.mul_one,Nat.add_zero,List.getElem?_map,List.getElem?_eq_getElem hi']
      rfl
    show ay c.imm (.raw (enc (S.getD i default))) _
    rw [List.getD_eq_getElem?_getD,List.getElem?_eq_getElem hi']
    exact ⟨rfl,h1 _⟩
  · have hne:b' ≠ b:=fun he=>by
     have:=hM.sep id _ b hl1 hblk
     rw [← he,hb'] at this
     cases this
    have hw:=hM.imm b' ob hb'
    rw [a1o (Array.getElem?_eq_some_iff.1 hw).1 hne]
    exact hw
  have:=(ip ho).1
  subst this
  exact hM.sep id0 _ b' hl1 hb'
 | [],h=>exact h.elim
 | [_],⟨_,h⟩=>exact h.elim
 | _ :: _ :: _ :: _,⟨_,_,h⟩=>exact h.elim
theorem zh {a b:AS}:ltOf a0v a b = bef a b:=auk
theorem avb:SWO (ltOf a0v) where
 irrefl x:=by rw [zh];exact zg x
 trans x y z h k:=by rw [zh] at *;exact qj h k
 ntrans x y z h k:=by
  rw [zh] at *
  rw [Bool.eq_false_iff,ne_eq,kz] at *
  omega
def srt (l:List AS):List AS:=l.mergeSort fun x y=>!bef y x
theorem akm:goodFn Tryz.prog 214:=⟨Tryz.f214,Tryz.func214,by kernel_rfl,by kernel_rfl⟩
theorem ax2 (id:Nat) (caps:Nat → PV) (l:List AS) (hsz:l.length ≤ 8589934592):dw Tryz.prog 214 [.one (.ref id l.length), .one (.p (.fn 215 0 caps))] [(id, .arr true 1 46 l.length (lf sC l))] (.tup [])
 [(id, .arr true 1 46 l.length (lf sC (srt l)))] [id]:=by
 have h:=apx Tryz.laysSort (fun s:AS=>.int .u32 (asI s)) (fun _=>rfl) a0v avb (fun x y h k=>by
  rw [zh] at h k
  apply Classical.byContradiction
  intro hne
  rcases a4s hne with h2 | h2
  · rw [h] at h2;cases h2
  rw [k] at h2;cases h2) 215 caps (enters_of Tryz.func215 (by kernel_rfl) rfl) (fun x y=>aua x y) id 46 l hsz
 have e:(fun x y:AS=>!(ltOf a0v) y x) = fun x y=>!bef y x:=by
  funext x y
  rw [zh]
 rw [e] at h
 exact h
theorem b16 {l:List AS} {x:AS}:x ∈ srt l ↔ x ∈ l:=by unfold srt;exact List.mem_mergeSort
theorem a57 (l:List AS):(srt l).length = l.length:=List.length_mergeSort _
theorem a3g:∀ {l:List AS} {p:Option AS},l.Pairwise (fun a b=>bef b a = false) → (∀ x,p = some x → ∀ y ∈ l,bef y x = false) → (ji p l).Pairwise (fun a b=>bef a b = true) ∧ ∀ x,p = some x → ∀ y ∈ ji p l,bef x y = true
 | [],p,_,_=>⟨by simp [ji],fun x _ y hy=>by simp [ji] at hy⟩
 | z :: l,p,h,hp=>by
  obtain ⟨h1,h2⟩:=List.pairwise_cons.1 h
  simp only [ji]
  split
  · rename_i e
    subst e
    exact a3g h2 fun x hx y hy=>hp x hx y (List.mem_cons_of_mem _ hy)
  rename_i hne
  obtain ⟨q1,q2⟩:=a3g (p:=some z) h2 fun x hx y hy=>by
   simp only [Option.some.injEq] at hx
   subst hx
   exact h1 y hy
  refine ⟨List.pairwise_cons.2 ⟨fun y hy=>q2 z rfl y hy,q1⟩,fun x hx y hy=>?_⟩
  have hxz:bef x z = true:=by
   have h3:=hp x hx z List.mem_cons_self
   rcases a4s (a:=x) (b:=z) (fun e=>hne (by rw [hx,e])) with h4 | h4
   · exact h4
   rw [h3] at h4;cases h4
  rcases List.mem_cons.1 hy with rfl | hy
  · exact hxz
  exact qj hxz (q2 z rfl y hy)
theorem a0t (l:List AS):iu (srt l) = ord l:=by
 refine b7y (a3g ?_ fun x hx=>by cases hx).1 fun z=>by rw [ah7,b16]
 have h:=List.pairwise_mergeSort (le:=fun x y:AS=>!bef y x) (fun a b c h k=>by
  simp only [Bool.not_eq_true'] at *
  rw [Bool.eq_false_iff,ne_eq,kz] at *
  omega) (fun a b=>by
  simp only [Bool.or_eq_true,Bool.not_eq_true']
  rw [Bool.eq_false_iff,Bool.eq_false_iff,ne_eq,ne_eq,kz,kz]
  omega) l
 refine h.imp fun {a b} hab=>?_
 simpa using hab
end
section
abbrev vB (b:Bool):HR:=bp (.raw (.bool b))
abbrev bx (a:PV):PV:=.vp 1 fun j=>[a].getD j .any
def tl (W:AS → AS → Bool) (l:List AS) (x:AS):Bool:=l.any fun b=>decide (x ≠ b) && W x b
def a0i (W:AS → AS → Bool) (l:List AS):List AS:=(ord l).filter fun x=>!tl W (ord l) x
def s8 (a b:AS):Bool:=decide (sub a b)
def ic (l:List AS):List AS:=a0i s8 l
theorem a2k (l:List AS):(ord l).Nodup:=(j8 l).imp fun {a b} h e=>by
 subst e
 rw [zg] at h
 cases h
def okT (l:List AS) (i k:Nat):Bool:=(List.range k).all fun j=>decide (j = i) || !s8 (l.getD i default) (l.getD j default)
def bd1 (l:List AS) (i:Nat):List AS:=((ord l).take i).filter fun x=>!tl s8 (ord l) x
end
section
open Go.Proofs
theorem vt:goodFn Tryz.prog 169:=wgx Tryz.func169
theorem a3p (l:List AS) (hl:l.length ≤ 8589934592):af Tryz.prog 169 [pP (asl l)] (aj [pP (asl (ord l))]):=by
 refine a8 (nt:=10) a7 Tryz.func169 rfl rfl l9 ?_;refine w_7 ?_;refine bf rfl rfl rfl rfl rfl rfl a34 (a07 l.length false (lf sC l) (by omega)) (da.refl _) trivial rfl rfl ?_;refine w_5 ?_
 refine bf rfl rfl rfl rfl rfl rfl akm (ax2 0 _ l hl) (da.refl _) ⟨u9,trivial⟩ rfl rfl ?_;refine w_4 ?_
 refine bf rfl rfl rfl rfl rfl rfl ajp ((aw0 (srt l)).swap 900 0) (⟨congrArg (HV.ref 0) (a57 l).symm,trivial⟩) ⟨⟨_,rfl,fy rfl (a57 l).symm⟩,trivial⟩ rfl rfl ?_;refine w_2 ?_
 exact hx8 rfl rfl rfl (⟨CoC.one (CoP.of_eq (by rw [a0t])),trivial⟩)
theorem b2p:goodFn Tryz.prog 186:=wgx Tryz.func186
theorem azo (b x:AS) (g k:Nat) (caps:Nat → PV) (W:AS → AS → Bool) (hg:goodFn Tryz.prog g) (hW:∀ x y,af Tryz.prog g (pA x :: pA y :: gn caps k 0) (aj [pB (W x y)])):af Tryz.prog 186 [pA b,pP (bx (asC x)),pP (bx (.fn g k caps))] (aj [pB (decide (x ≠ b) && W x b)]):=by
 refine a8 (nt:=14) a7 Tryz.func186 rfl rfl l9 ?_;refine dl ?_;refine b9 rfl rfl (fun r0=>?_) (fun r0=>?_)
 ·
  have h0:=r0
  have h0:=aa (au h0)
  try simp only [ty] at h0
  (iterate 3 refine qy ?_ (hg:=(gtt r0)));refine rc rfl rfl rfl rfl rfl rfl hg (hW x b) (CoL.refl _) rfl (gtt r0) ?_;refine w_3 ?_
  exact hx8 rfl rfl rfl (⟨ccb (by simp_all [c8]),trivial⟩)
 have h0:=r0
 have h0:=ae (ar h0)
 try simp only [ty] at h0
 (iterate 4 refine k9 (gft r0) ?_);refine rq rfl rfl rfl rfl rfl ?_ (hp:=r0);refine w_2 ?_
 exact hx8 rfl rfl rfl (⟨ccb (by simp_all [c8]),trivial⟩)
theorem ayn:goodFn Tryz.prog 185:=wgx Tryz.func185
theorem b5h (x:AS) (l:List AS) (g k:Nat) (caps:Nat → PV) (W:AS → AS → Bool) (hg:goodFn Tryz.prog g) (hW:∀ x y,af Tryz.prog g (pA x :: pA y :: gn caps k 0) (aj [pB (W x y)])):af Tryz.prog 185 [pA x,pP (bx (asl l)),pP (bx (.fn g k caps))] (aj [pB (tl W l x)]):=by
 refine a8 (nt:=8) a7 Tryz.func185 rfl rfl l9 ?_;refine sx7 ?_;refine m9 0 ?_;refine w_3 ?_;refine cz 3 rfl rfl rfl ?_;refine w_3 ?_
 refine qcx aa3 (ale l 186 2 (fun i=>[bx (asC x),bx (.fn g k caps)].getD i .any) (fun b=>decide (x ≠ b) && W x b) b2p (fun b=>azo b x g k caps W hg hW)) ?_;refine w_2 ?_
 exact hx8 rfl rfl rfl (CoL.refl _)
theorem aiv:goodFn Tryz.prog 137:=wgx Tryz.func137
theorem ax0 (l:List AS) (hl:l.length ≤ 8589934592) (g k:Nat) (caps:Nat → PV) (W:AS → AS → Bool) (hg:goodFn Tryz.prog g) (hW:∀ x y,af Tryz.prog g (pA x :: pA y :: gn caps k 0) (aj [pB (W x y)])):af Tryz.prog 137 [pP (asl l),pP (.fn g k caps)] (aj [pP (asl (a0i W l))]):=by
 refine a8 (nt:=12) a7 Tryz.func137 rfl rfl l9 ?_;refine sx7 ?_;refine m9 2 ?_;refine w_5 ?_;refine qcx vt (a3p l hl) ?_;refine m9 3 ?_;refine w_3 ?_;refine cz 5 rfl rfl rfl ?_
 refine cz 3 rfl rfl rfl ?_;refine w_2 ?_;refine bf rfl rfl rfl rfl rfl rfl a34 (a07 (ord l).length false (lf sC (ord l)) (Nat.le_trans (l7 l) (by omega))) (da.refl _) trivial rfl rfl ?_
 refine qy ?_
 refine bf rfl rfl rfl rfl rfl rfl aaw ((amb (ord l) 185 2 (fun i=>[bx (asl (ord l)),bx (.fn g k caps)].getD i .any) (tl W (ord l)) ayn (fun x=>b5h x (ord l) g k caps W hg hW)).swap 900 0) (da.refl _) ⟨u9,trivial⟩ rfl rfl ?_
 refine w_2 ?_
 exact hx8 rfl rfl rfl (CoL.refl _)
theorem b1k:goodFn Tryz.prog 138:=wgx Tryz.func138
theorem bau (a b:AS):af Tryz.prog 138 [pA a,pA b] (aj [pB (s8 a b)]):=by
 refine a8 (nt:=9) a7 Tryz.func138 rfl rfl l9 ?_;refine fc ?_
 exact hx8 rfl rfl rfl (⟨ccb (decide_eq_decide.2 m7),trivial⟩)
theorem afq:goodFn Tryz.prog 75:=wgx Tryz.func75
theorem a7k (l:List AS) (hl:l.length ≤ 8589934592):af Tryz.prog 75 [pP (asl l)] (aj [pP (asl (ic l))]):=by
 refine a8 (nt:=5) a7 Tryz.func75 rfl rfl l9 ?_;refine w_7 ?_;refine qcx aiv (ax0 l hl 138 0 _ s8 b1k (fun a b=>bau a b)) ?_;refine w_2 ?_
 exact hx8 rfl rfl rfl (CoL.refl _)
end
section
def gu (l:List Fd):List Fd:=l.foldl (fun o x=>if x ∈ o then o else o ++ [x]) []
theorem a8l {l:List Fd} {i:Nat} (hi:i < l.length):gu (l.take (i + 1)) = if l.getD i default ∈ gu (l.take i) then gu (l.take i) else gu (l.take i) ++ [l.getD i default]:=by
 unfold gu
 rw [b5 hi,List.foldl_append]
 rfl
theorem aer {l:List Fd} {s:Fd}:(l.any fun x=>decide (x = s)) = decide (s ∈ l):=by
 rw [Bool.eq_iff_iff,List.any_eq_true,decide_eq_true_iff]
 constructor
 · rintro ⟨x,hx,h⟩
   exact of_decide_eq_true h ▸ hx
 intro h
 exact ⟨s,h,decide_eq_true rfl⟩
theorem a4i {l:List Fd} {i:Nat} (hi:i < l.length) (h:((gu (l.take i)).any fun x=>decide (x = l.getD i default)) = false):gu (l.take (i + 1)) = gu (l.take i) ++ [l.getD i default]:=by
 rw [aer] at h
 rw [a8l hi,if_neg (of_decide_eq_false h)]
theorem a4v {l:List Fd} {i:Nat} (hi:i < l.length) (h:((gu (l.take i)).any fun x=>decide (x = l.getD i default)) = true):gu (l.take (i + 1)) = gu (l.take i):=by
 rw [aer] at h
 rw [a8l hi,if_pos (of_decide_eq_true h)]
theorem acf:∀ (l o:List Fd),(l.foldl (fun o x=>if x ∈ o then o else o ++ [x]) o).length ≤ o.length + l.length ∧ ∀ z,z ∈ l.foldl (fun o x=>if x ∈ o then o else o ++ [x]) o ↔ z ∈ o ∨ z ∈ l
 | [],o=>⟨by simp,fun z=>by simp⟩
 | x :: l,o=>by
  obtain ⟨h1,h2⟩:=acf l (if x ∈ o then o else o ++ [x])
  simp only [List.foldl_cons]
  refine ⟨?_,fun z=>?_⟩
  · refine Nat.le_trans h1 ?_
    split <;> simp <;> omega
  rw [h2 z,List.mem_cons]
  split
  · rename_i hx
    constructor
    · rintro (h | h) <;> simp [h]
    rintro (h | rfl | h)
    · exact .inl h
    · exact .inl hx
    exact .inr h
  rw [List.mem_append,List.mem_singleton]
  constructor
  · rintro ((h | h) | h) <;> simp [h]
  rintro (h | h | h) <;> simp [h]
theorem a3c (l:List Fd):(gu l).length ≤ l.length:=by
 have:=(acf l []).1
 simpa [gu] using this
def bdb (l:List Fd) (i k:Nat):Bool:=(l.take k).any fun x=>decide (x = l.getD i default)
def a04 (f:Fd):List Fd:=(ap (f.rhs &&& ~~~f.lhs)).map fun a=>(⟨f.lhs,(1:AS) <<< a⟩:Fd)
def jh (l:List Fd):List Fd:=(l.map a04).flatten
def lw (l:List Fd) (i k:Nat):List Fd:=jh (l.take i) ++ (a04 (l.getD i default)).take k
theorem a1b (f:Fd):(a04 f).length = (ap (f.rhs &&& ~~~f.lhs)).length:=by unfold a04;rw [List.length_map]
theorem lg (s:AS):(ap s).length ≤ 32:=by rw [← tx];exact ag0 s
theorem a6a (l:List Fd) (i:Nat):lw l i 0 = jh (l.take i):=by unfold lw;rw [List.take_zero,List.append_nil]
theorem a61 {l:List Fd} {i k:Nat} {m:List Nat} (hm:m = ap ((l.getD i default).rhs &&& ~~~(l.getD i default).lhs)) (hk:k < m.length):lw l i (k + 1) = lw l i k ++ [⟨(l.getD i default).lhs,(1:AS) <<< m.getD k default⟩]:=by
 subst hm
 unfold lw
 generalize l.getD i default = x at *
 rw [List.take_add_one,List.append_assoc]
 congr 1
 congr 1
 unfold a04
 rw [List.getElem?_map,List.getElem?_eq_getElem hk,List.getD_eq_getElem?_getD,List.getElem?_eq_getElem hk]
 rfl
theorem a9p {l:List Fd} {i:Nat} (hi:i < l.length) {k:Nat} (hk:k = (ap ((l.getD i default).rhs &&& ~~~(l.getD i default).lhs)).length):lw l i k = jh (l.take (i + 1)):=by
 subst hk
 unfold lw jh
 rw [← a1b,List.take_length,b5 hi,List.map_append,List.flatten_append]
 simp
theorem a1f (l:List Fd):(jh l).length ≤ 32 * l.length:=by
 induction l with
 | nil=>simp [jh]
 | cons x l ih =>
  have h:jh (x :: l) = a04 x ++ jh l:=by simp [jh]
  have h2:=a1b x
  have h3:=lg (x.rhs &&& ~~~x.lhs)
  rw [h,List.length_append,List.length_cons]
  omega
theorem amh {l:List Fd} {i k:Nat} (hi:i ≤ l.length):(lw l i k).length ≤ 32 * l.length + 32:=by
 have h1:=a1f (l.take i)
 have h2:=lg ((l.getD i default).rhs &&& ~~~(l.getD i default).lhs)
 rw [List.length_take] at h1
 unfold lw
 rw [List.length_append,List.length_take,a1b]
 omega
def exB (l:List Fd) (x:Fd) (a:Nat):Bool:=imp l ⟨x.lhs &&& ~~~((1:AS) <<< a),x.rhs⟩
theorem a5g (s:AS) (a:Nat):bo .andNot .u32 (asI s) (IntKind.wrap .u32 (1 * 2 ^ (min a 32))) = asI (s &&& ~~~((1:AS) <<< a)):=by
 rw [show IntKind.wrap .u32 (1 * 2 ^ (min a 32)) = asI ((1:AS) <<< a) from aez 1 a,jn]
theorem b0w (a:Nat):IntKind.wrap .u32 (1 * 2 ^ (min a 32)) = asI ((1:AS) <<< a):=aez 1 a
def jw (l:List Fd) (i:Nat):List Fd:=l.take i ++ l.drop (i + 1)
def abl (l:List Fd) (i:Nat):Bool:=imp (jw l i) (l.getD i default)
theorem kn {l:List Fd} {i:Nat} (hi:i < l.length):(jw l i).length = l.length - 1:=by unfold jw;rw [List.length_append,List.length_take,List.length_drop];omega
end
section
open Go.Proofs Go.Lib Go.RowKit
set_option maxHeartbeats 4000000 in
set_option maxRecDepth 100000 in
theorem ahs (k:Nat) (hk:0 < k) (hbig:k * 8 ≤ 140737488355328) (w:World) (ad:Option Addr) :
 Calls Tryz.prog 278 #[.slice ad 0 0, .int .i64 k] w fun e w'=>∃ G ROW,e = .returned (.slice (some ⟨w.heap.size,0,none⟩) 0 G) ∧ G ≤ maxLen ∧ w' = w.drew.alloc (.cells ROW 48) ∧ ROW.size = G * 2:=by
 obtain ⟨i0,z,hi0,hz0,hzs,hzb,hzc⟩:∃ i0 z,Tryz.prog.info? 48 = some i0 ∧ i0.zero = some z ∧ i0.size = 2 ∧ i0.bytes = 8 ∧ z.cells.size = 2:=by
  have h:(Tryz.prog.info? 48).map (fun i=>(i.zero.map (fun z=>z.cells.size),i.size,i.bytes)) = some (some 2,2,8):=by kernel_rfl
  cases hq:Tryz.prog.info? 48 with
  | none=>rw [hq] at h;cases h
  | some i0 =>
   rw [hq] at h
   cases hz:i0.zero with
   | none=>simp [hz] at h
   | some z=>simp [hz] at h;exact ⟨i0,z,rfl,hz,h.2.1,h.2.2,h.1⟩
 have hc:0 + k ≤ maxLen:=by unfold maxLen;omega
 have hold:(Builtin.firstCells i0.size 0 (.slice ad 0 0)).run Tryz.prog w.drew = .ok (([]:List Value)).toArray w.drew:=by
  cases ad with
  | none=>exact run_firstCells_none w.drew _ _ _ _
  | some a=>exact run_firstCells_some w.drew _ 0 a 0 0 [] (by simp) (fun j v hj=>by simp at hj)
 obtain ⟨G,hG⟩:∃ G,G = grownCap w (0 + k) 0 48:=⟨_,rfl⟩
 have hGn:0 + k ≤ G:=by rw [hG];exact grownCap_ge w _ _ _
 have hGm:G ≤ maxLen:=by rw [hG];exact grownCap_le_maxLen w (0 + k) 0 48 hc
 obtain ⟨ROW,hROW⟩:∃ ROW:Array Value,ROW = ([]:List Value).toArray ++ Builtin.zeroCells z.cells k ++ Builtin.zeroCells z.cells (G - (0 + k)):=⟨_,rfl⟩
 have hrz:(Builtin.append_ #[26,3] 26 #[.slice ad 0 0, .int .i64 (k:Int)]).run Tryz.prog w = .ok (.slice (some ⟨w.heap.size,0,none⟩) k G) (w.drew.alloc (.cells ROW 48)):=by
  have h:=Lib.run_append_grow_zeros w 26 3 26 48 i0 z .i64 .i64 Tryz.underlying26 Tryz.underlying3 hi0 hz0 ad 0 0 [] hold k hk (by omega) (by omega) (by unfold maxLen at hc;omega) (by rw [hzb];omega) (by rw [hzb,Nat.zero_add];exact growslice_fits (by omega) hbig)
  rw [← hG,← hROW] at h
  rw [h]
  simp
 have hRs:ROW.size = G * 2:=by
  rw [hROW]
  simp only [Array.size_append,List.size_toArray,List.length_nil,size_zeroCells,hzc]
  omega
 have mixed:=aw
 have hcM:G ≤ 9223372036854775807:=by unfold maxLen at hGm;omega
 have hk0:¬ ((k:Int) < 0):=by omega
 have hk1:(0:Int) < (k:Int):=by omega
 have hw1:IntKind.i64.wrap (k:Int) = (k:Int):=by rw [IntKind.wrap_i64];omega
 clear hG hROW hold
 rcases ad with _ | ⟨ab,ao,asp⟩
 all_goals go_enter Tryz.func278,Tryz.ntmps278
 all_goals go_wp2_with (at_builtin;refine Lib.wpList_append_run _ rfl _ _ _ _ rfl _ _ rfl rfl _ _ hrz ?_)
 all_goals go_ret
 all_goals first | exact ⟨G,ROW,rfl,hGm,rfl,hRs⟩ | exact ⟨G,rfl,hGm,ROW,rfl,hRs⟩
theorem ahc (w:World) (ad:Option Addr):Calls Tryz.prog 278 #[.slice ad 0 0, .int .i64 0] w fun e w'=>e = .returned (.slice ad 0 0) ∧ w' = w:=by
 have mixed:=aw
 go_enter Tryz.func278,Tryz.ntmps278
 go_wp2
 go_ret
 exact ⟨rfl,rfl⟩
theorem b9z (k a:Nat) (hk:k ≤ 68719476736) (F:Nat → Nat → PV) :
 dw Tryz.prog 278 [.one (.p (jg (.slice none 0 0))), .one (.p (.raw (.int .i64 k)))] [] (.v (.one (.ref a 0))) [(a, .arr true 2 48 0 F)] []:=by
 refine atk (by omega) fun w ad=>?_
 rcases Nat.eq_zero_or_pos k with rfl | hk0
 · refine (ahc w ad).mono ?_
   rintro e w' ⟨rfl,rfl⟩
   exact ⟨_,rfl,Below.refl _ _, .inl rfl⟩
 refine (ahs k hk0 (by omega) w ad).mono ?_
 rintro e w' ⟨G,ROW,rfl,hG,rfl,hR⟩
 refine ⟨_,rfl,⟨rfl,rfl,rfl, ?_,fun q hq=>b4j w.drew _ hq,Nat.le_succ _⟩, .inr ⟨⟨by simp, .inr ⟨_,G,ROW,rfl,Nat.zero_le _,heap_alloc_new w.drew _,Nat.zero_le _,hG,hR,by simp⟩⟩,fun g hg=>?_⟩⟩
 · show _ ≤ (w.heap.push _).size
   rw [Array.size_push];omega
 have:w.heap.size = g:=by simpa [cw] using hg
 omega
end
section
open Go.Proofs
theorem ajo:goodFn Tryz.prog 231:=wgx Tryz.func231
theorem ao2 (l:List Fd) (hl:l.length ≤ 16777216):dw Tryz.prog 231 [.one (.p (fdl l))] [] (.v (.one (.ref 900 (gu l).length))) [(900, .arr true 2 48 (gu l).length (lf Fd.c (gu l)))] []:=by
 refine gd (nt:=22) a7 Tryz.func231 rfl rfl l9 rfl ?_;refine dl ?_
 refine dg 0 rfl fun hn=>?_
 refine w_6 ?_;refine d6 3 900 true 2 48 (lf Fd.c []) (by decide) rfl (CoP.sl rfl (.inr rfl) (fun h=>h) (fun i j hi _=>absurd hi (Nat.not_lt_zero i))) (.inr rfl) rfl ?_
 refine ah (ι:=Nat) ⟨[(6,some _),(7,some _)],[]⟩ ⟨⟨c9,c9,trivial⟩,trivial⟩ (fun i=>⟨[(3,some (.v (.one (.ref 900 (gu (l.take i)).length)))),(8,some (vI i))],[(900,some (.arr true 2 48 (gu (l.take i)).length (lf Fd.c (gu (l.take i)))))]⟩) (fun i=>i ≤ l.length) (fun i=>l.length - i) (0) (Nat.zero_le _) ⟨⟨zy,zy,trivial⟩,⟨u9,trivial⟩⟩ ?_
 rintro i hi
 have hlen:=a3c (l.take i)
 rw [List.length_take] at hlen
 refine w_5 ?_;refine a6 _ rfl (fun r0=>?_) (fun r0=>?_)
 ·
  have h0:=ae r0
  try simp only [ty] at h0
  refine w_7 ?_;refine m9 0 ?_;refine w_6 ?_;refine qcx az7 (bc7 (gu (l.take i)) (l.getD i default)) ?_;refine w_2 ?_;refine a6 _ rfl (fun r1=>?_) (fun r1=>?_)
  ·
   have h1:=r1
   have h1:=au h1
   have hc:=au r1
   refine w_3 ?_;refine m9 1 ?_;refine ra 2 true rfl rfl rfl rfl rfl rfl ?_;refine w_6 ?_
   first | (refine ⟨i + 1, ?_, ?_, ?_⟩
            · show i + 1 ≤ _;omega
            · first | omega | (dsimp only;omega)
            exact ⟨⟨⟨_,rfl,(ca (a4i (by omega) hc))⟩,zy,c9,c9,trivial⟩,⟨⟨_,rfl,(ov (a4i (by omega) hc) (CoP.refl _) (CoP.refl _))⟩,trivial⟩⟩)
         | (refine ⟨i + 1, ?_, ?_, ?_⟩
            · show i + 1 ≤ _;omega
            · first | omega | (dsimp only;omega)
            exact ⟨⟨⟨_,rfl,(cg (a4v (by omega) hc))⟩,zy,c9,c9,trivial⟩,⟨⟨_,rfl,(cb (a4v (by omega) hc))⟩,trivial⟩⟩)
  have h1:=r1
  have h1:=ar h1
  have hc:=ar r1
  refine w_5 ?_
  first | (refine ⟨i + 1, ?_, ?_, ?_⟩
           · show i + 1 ≤ _;omega
           · first | omega | (dsimp only;omega)
           exact ⟨⟨⟨_,rfl,(ca (a4i (by omega) hc))⟩,zy,c9,c9,trivial⟩,⟨⟨_,rfl,(ov (a4i (by omega) hc) (CoP.refl _) (CoP.refl _))⟩,trivial⟩⟩)
        | (refine ⟨i + 1, ?_, ?_, ?_⟩
           · show i + 1 ≤ _;omega
           · first | omega | (dsimp only;omega)
           exact ⟨⟨⟨_,rfl,(cg (a4v (by omega) hc))⟩,zy,c9,c9,trivial⟩,⟨⟨_,rfl,(cb (a4v (by omega) hc))⟩,trivial⟩⟩)
 have h0:=aa r0
 try simp only [ty] at h0
 obtain rfl:i = l.length:=by omega
 refine w_7 ?_;refine ⟨.inr rfl, ?_⟩
 exact ⟨_,_,rfl,(by (repeat' apply And.intro) <;> first | trivial | exact Nat.le_of_ble_eq_true rfl),CoR.of_eq (by rw [List.take_length];rfl),⟨⟨_,rfl,fy (by rw [List.take_length]) (by rw [List.take_length])⟩,trivial⟩⟩
theorem bai (l:List Fd) (hl:l.length ≤ 16777216):af Tryz.prog 231 [pP (fdl l)] (aj [pP (fdl (gu l))]) :=
 dw.pure (args:=[pP (fdl l)]) (l:=[.one (.ref 900 (gu l).length)]) (ao2 l hl) rfl ⟨rfl,trivial⟩
end
section
theorem a1h {α:Type} [Inhabited α] {s n k':Nat} {k:Int} {cl:Bool} {c:α → Nat → PV} {l:List α} (h:k.toNat = k') (hk:k' ≤ l.length) :
 CoP (.sl (ej (bc n (some k)) none) s cl (oo (lf c l) none)) (psl s c (l.take k')):=by
 subst h;exact ajy hk
theorem av1 {α:Type} [Inhabited α] {s n k':Nat} {k:Int} {cl:Bool} {c:α → Nat → PV} {l:List α} (hn:n = l.length) (h:k.toNat = k'):CoP (.sl (ej n (some k)) s cl (oo (lf c l) (some k))) (psl s c (l.drop k')):=by
 subst h hn;exact az8
theorem af2 {l:List Fd} {i:Nat}:[l.take i,l.drop (i + 1)].flatten = jw l i:=by simp [jw]
theorem b0e {l:List Fd} {i:Nat} (hi:i < l.length) (hl:l.length ≤ 16777216):[l.take i,l.drop (i + 1)].flatten.length ≤ 16777216:=by
 rw [af2,kn hi]
 omega
theorem b8q {x:Fd} {b:Int} {s:AS} (h:b = asI s):CoC (.agg [.raw (.int .u32 b), .raw (.int .u32 (asI x.rhs))]) (Fd.pc ⟨s,x.rhs⟩):=by
 subst h
 exact CoC.refl _
end
section
open Go.Proofs
def rwC (l:List Fd):Nat → PV
 | 0=>fdl l
 | _=>.any
abbrev bba (ls:List (List Fd)):PV:=psl 1 rwC ls
theorem b28:goodFn Tryz.prog 278:=wgx Tryz.func278
theorem b0r:goodFn Tryz.prog 254:=wgx Tryz.func254
theorem b0o (ls:List (List Fd)) (h:ls.flatten.length ≤ 16777216):af Tryz.prog 254 [pP (bba ls)] (aj [pP (fdl ls.flatten)]):=by
 refine a8 (nt:=36) a7 Tryz.func254 rfl rfl l9 ?_;refine dl ?_;refine dg 0 rfl (fun hn=>?_);refine w_6 ?_
 refine ah (ι:=Nat) ⟨[(0,some _),(9,some _),(10,some _)],[]⟩ ⟨⟨c9,c9,c9,trivial⟩,trivial⟩ (fun i=>⟨[(3,some (vI (ls.take i).flatten.length)),(11,some (vI i))],[]⟩) (fun i=>i ≤ ls.length) (fun i=>ls.length - i) (0) (Nat.zero_le _) ⟨⟨zy,zy,trivial⟩,trivial⟩ ?_
 rintro i hi
 refine w_5 ?_;refine a6 _ rfl (fun r0=>?_) (fun r0=>?_)
 ·
  have h0:=ae r0
  try simp only [ty] at h0
  have hts:(ls.take (i + 1)).flatten.length = (ls.take i).flatten.length + (ls.getD ((i:Nat):Int).toNat default).length:=by rw [tsf _ _ (by omega),List.length_append];rfl
  have hfl:(ls.take i).flatten.length + (ls.getD ((i:Nat):Int).toNat default).length ≤ ls.flatten.length:=a38 ls i (by omega)
  refine bca ?_;refine a6 _ rfl (fun r1=>?_) (fun r1=>?_)
  ·
   have h1:=ae r1
   try simp only [ty] at h1
   exfalso
   omega
  have h1:=aa r1
  try simp only [ty] at h1
  refine w_5 ?_;refine ⟨i + 1, ?_, ?_, ?_⟩
  · show i + 1 ≤ _
    omega
  · first | omega | (dsimp only;omega)
  exact ⟨⟨zy,zy,c9,c9,c9,trivial⟩,trivial⟩
 have h0:=aa r0
 try simp only [ty] at h0
 obtain rfl:i = ls.length:=by omega
 have hfe:(ls.take ls.length).flatten.length = ls.flatten.length:=by rw [List.take_length]
 refine w_4 ?_;refine bf rfl rfl rfl rfl rfl rfl b28 (b9z (ls.take ls.length).flatten.length 900 (by omega) (lf Fd.c [])) (da.refl _) trivial rfl rfl ?_;refine dl ?_
 refine ah (ι:=Nat) ⟨[(25,some _),(26,some _)],[]⟩ ⟨⟨c9,c9,trivial⟩,trivial⟩ (fun i=>⟨[(6,some (.v (.one (.ref 900 (ls.take i).flatten.length)))),(27,some (vI i))],[(900,some (.arr true 2 48 (ls.take i).flatten.length (lf Fd.c (ls.take i).flatten)))]⟩) (fun i=>i ≤ ls.length) (fun i=>ls.length - i) (0) (Nat.zero_le _) ⟨⟨zy,zy,trivial⟩,⟨u9,trivial⟩⟩ ?_
 rintro i hi
 refine w_5 ?_;refine a6 _ rfl (fun r2=>?_) (fun r2=>?_)
 ·
  have h2:=ae r2
  try simp only [ty] at h2
  have hts:(ls.take (i + 1)).flatten.length = (ls.take i).flatten.length + (ls.getD ((i:Nat):Int).toNat default).length:=by rw [tsf _ _ (by omega),List.length_append];rfl
  have hfl:(ls.take i).flatten.length + (ls.getD ((i:Nat):Int).toNat default).length ≤ ls.flatten.length:=a38 ls i (by omega)
  refine fc ?_;refine ra 0 true rfl rfl rfl rfl rfl rfl ?_;refine w_6 ?_;refine ⟨i + 1, ?_, ?_, ?_⟩
  · show i + 1 ≤ _
    omega
  · first | omega | (dsimp only;omega)
  exact ⟨⟨⟨_,rfl,(CoR.of_eq (by rw [hts]))⟩,zy,c9,c9,trivial⟩,⟨⟨_,rfl,(by rw [tsf _ _ (by omega)];exact ar8 _ (fun h=>h) rfl (fun i j hi hj=>CoP.refl _))⟩,trivial⟩⟩
 have h2:=aa r2
 try simp only [ty] at h2
 obtain rfl:i = ls.length:=by omega
 refine w_7 ?_;refine ⟨.inr rfl, ?_⟩
 rw [show ls.flatten = (ls.take ls.length).flatten by rw [List.take_length]]
 exact f9 rfl rfl (CoL.refl _)
theorem aj1:goodFn Tryz.prog 233:=wgx Tryz.func233
theorem al8 (l:List Fd) (i:Nat) (hi:i < l.length) (hl:l.length ≤ 16777216):af Tryz.prog 233 [pP (fdl l),pI i] (aj [pP (fdl (jw l i))]):=by
 refine a8 (nt:=14) a7 Tryz.func233 rfl rfl l9 ?_;refine w_5 ?_
 have hll:=b0e hi hl
 refine bg (E:=bj) a7 aw [0,1,2,3,4,5,6,7,8,9] ?_;refine w_7 ?_;refine m9 0 ?_
 refine bf rfl rfl rfl rfl rfl rfl b0r (af.eat (hcs:=[.one (.ref 0 2)]) (o1:=[(0, .arr true 1 26 2 (lf rwC [l.take i,l.drop (i + 1)]))]) (b0o [l.take i,l.drop (i + 1)] hll) rfl (by (repeat' apply And.intro) <;> first | trivial | rfl) (CoL.refl _)) (da.refl _) ⟨⟨_,rfl,⟨fun h=>h,rfl,rfl,rfl,fun i j hi hj=>(by have hi:i < 2:=hi;have hj:j < 1:=hj;obtain rfl:j = 0:=(by omega);rcases (show i = 0 ∨ i = 1 by omega) with rfl | rfl;exact a1h rfl (by omega);exact av1 rfl (by omega))⟩⟩,trivial⟩ rfl rfl ?_
 refine w_2 ?_;refine ⟨by kernel_rfl, ?_⟩
 exact hx8 rfl rfl rfl (⟨CoC.one (CoP.of_eq (by rw [af2])),trivial⟩)
theorem b03:goodFn Tryz.prog 232:=wgx Tryz.func232
theorem b72 (l:List Fd) (i:Nat) (hi:i < l.length) (hl:l.length ≤ 16777216):af Tryz.prog 232 [pP (fdl l),pI i] (aj [pB (abl l i)]):=by
 refine a8 (nt:=13) a7 Tryz.func232 rfl rfl l9 ?_;refine w_5 ?_;refine bg (E:=bj) a7 aw [0,1,2,3,4,5,6,7,8] ?_;refine w_2 ?_;refine qcx aj1 (al8 l i hi hl) ?_;refine w_4 ?_
 refine qcx al3 (b53 (jw l i) (l.getD i default)) ?_;refine w_2 ?_;refine ⟨by kernel_rfl, ?_⟩
 exact hx8 rfl rfl rfl (CoL.refl _)
theorem ayi:goodFn Tryz.prog 230:=wgx Tryz.func230
theorem b5g (l:List Fd) (x:Fd) (a:Nat):af Tryz.prog 230 [pP (fdl l),x.pc,pI a] (aj [pB (exB l x a)]):=by
 refine a8 (nt:=17) a7 Tryz.func230 rfl rfl l9 ?_;refine sx7 ?_;refine m9 0 ?_;refine w_3 ?_;refine bg (E:=bj) a7 aw [0,1,2,3,4,5,6,7,8,9,10] ?_;refine w_9 ?_
 refine rc rfl rfl rfl rfl rfl rfl al3 (b53 l ⟨x.lhs &&& ~~~((1:AS) <<< a),x.rhs⟩) (⟨CoC.refl _,b8q (a5g _ _),trivial⟩) rfl rfl ?_;refine w_2 ?_;refine ⟨by kernel_rfl, ?_⟩
 exact hx8 rfl rfl rfl (CoL.refl _)
end
section
def bcu (l:List Fd) (i k:Nat):List Fd:=jh (l.take i) ++ (iz ((l.getD i default).rhs &&& ~~~(l.getD i default).lhs) k).map fun a=>(⟨(l.getD i default).lhs,(1:AS) <<< a⟩:Fd)
def alk (x:Fd) (a:Nat):Fd:=⟨x.lhs &&& ~~~((1:AS) <<< a),x.rhs⟩
def qx (i:Nat) (l:List Fd) (a:Nat):List Fd:=if dx (l.getD i default).lhs a && exB l (l.getD i default) a then l.set i (alk (l.getD i default) a) else l
def ny (l:List Fd) (i k:Nat):List Fd:=((ap (l.getD i default).lhs).take k).foldl (qx i) l
def a7q (l:List Fd) (i:Nat):List Fd:=(ap (l.getD i default).lhs).foldl (qx i) l
def jm (l:List Fd) (i:Nat):List Fd:=(List.range i).foldl a7q l
theorem aei {i a:Nat} {l:List Fd}:(qx i l a).length = l.length:=by
 unfold qx
 split
 · rw [List.length_set]
 rfl
theorem a3b {i:Nat}:∀ (m:List Nat) (l:List Fd),(m.foldl (qx i) l).length = l.length
 | [],l=>rfl
 | a :: m,l=>by rw [List.foldl_cons,a3b m,aei]
theorem af1 {l:List Fd} {i k:Nat}:(ny l i k).length = l.length:=a3b _ _
theorem ati {l:List Fd} {i:Nat}:(a7q l i).length = l.length:=a3b _ _
theorem mo {l:List Fd}:∀ {i:Nat},(jm l i).length = l.length
 | 0=>rfl
 | i + 1=>by
  unfold jm
  rw [List.range_succ,List.foldl_append]
  show (a7q ((List.range i).foldl a7q l) i).length = _
  rw [ati]
  exact mo (i:=i)
theorem as3 (l:List Fd) (i:Nat):jm l (i + 1) = a7q (jm l i) i:=by
 unfold jm
 rw [List.range_succ,List.foldl_append]
 rfl
theorem aoy (l:List Fd) (i:Nat):ny l i 0 = l:=by unfold ny;rw [List.take_zero];rfl
theorem atq {l:List Fd} {i k:Nat} (hk:k = (ap (l.getD i default).lhs).length):ny l i k = a7q l i:=by
 unfold ny a7q
 rw [hk,List.take_length]
theorem xo {l:List Fd} {i k:Nat} (hk:k < (ap (l.getD i default).lhs).length):ny l i (k + 1) = qx i (ny l i k) ((ap (l.getD i default).lhs).getD k default):=by
 unfold ny
 rw [b5 hk,List.foldl_append]
 rfl
theorem ac6 {l:List Fd} {i:Nat} {x:Fd} (hi:i < l.length):(l.set i x).getD i default = x:=by simp [List.getD,hi]
theorem aug {i a b:Nat} {l:List Fd} (hi:i < l.length) (hb:b < 32) (hne:b ≠ a):((qx i l a).getD i default).lhs.getLsbD b = (l.getD i default).lhs.getLsbD b:=by
 unfold qx
 split
 · rw [ac6 hi]
   show ((l.getD i default).lhs &&& ~~~((1:AS) <<< a)).getLsbD b = _
   rw [BitVec.getLsbD_and,BitVec.getLsbD_not,sv _ _ hb]
   simp [hb,hne]
 rfl
theorem acb {i b:Nat} (hb:b < 32):∀ (m:List Nat) (l:List Fd),i < l.length → (∀ a ∈ m,b ≠ a) → ((m.foldl (qx i) l).getD i default).lhs.getLsbD b = (l.getD i default).lhs.getLsbD b
 | [],l,_,_=>rfl
 | a :: m,l,hi,h=>by
  rw [List.foldl_cons,acb hb m _ (by rw [aei];exact hi) fun c hc=>h c (List.mem_cons_of_mem _ hc),aug hi hb (h a List.mem_cons_self)]
theorem amj (s:AS):(ap s).Pairwise (· < ·):=List.Pairwise.filter _ List.pairwise_lt_range
theorem agx {m:List Nat} {k:Nat} (hk:k < m.length):m.getD k default = m[k]:=by simp [List.getD,hk]
theorem asr {m:List Nat} {k:Nat} (hk:k < m.length):m.getD k default ∈ m:=by rw [agx hk];exact List.getElem_mem hk
theorem atr {l:List Fd} {i k:Nat} (hi:i < l.length) (hk:k < (ap (l.getD i default).lhs).length):dx ((ny l i k).getD i default).lhs (((ap (l.getD i default).lhs).getD k default:Nat):Int) = true:=by
 have hm:(ap (l.getD i default).lhs).getD k default ∈ ap (l.getD i default).lhs:=asr hk
 obtain ⟨h1,h2⟩:=kb.1 hm
 rw [n4 h1]
 unfold ny
 rw [acb h1 _ _ hi,h2]
 intro a ha
 obtain ⟨j,hj,rfl⟩:=List.getElem_of_mem ha
 rw [List.length_take] at hj
 rw [List.getElem_take,agx hk]
 have:=List.pairwise_iff_getElem.1 (amj (l.getD i default).lhs) j k (by omega) hk (by omega)
 exact Nat.ne_of_gt this
theorem apo {i a:Nat} {l:List Fd} (h:dx (l.getD i default).lhs a = true) (h2:exB l (l.getD i default) a = true):qx i l a = l.set i (alk (l.getD i default) a):=by unfold qx;rw [h,h2];rfl
theorem aqk {i a:Nat} {l:List Fd} (h2:exB l (l.getD i default) a = false):qx i l a = l:=by unfold qx;rw [h2];simp
theorem aiu {wr wr':Bool} {n k i a:Nat} {e:TypeId} {l l':List Fd} {v:Int} (hl:l' = l.set i (alk (l.getD i default) a)) (hv:v = asI ((l.getD i default).lhs &&& ~~~((1:AS) <<< a))) (hk:k = i) (hi:i < l.length) (hn:n = l.length) (hw:wr' = true → wr = true:=by exact fun h=>h) :
 CoO (.arr wr 2 e n (eu (lf Fd.c l) k 0 [.raw (.int .u32 v)])) (.arr wr' 2 e n (lf Fd.c l')):=by
 subst hl hv hk hn
 refine ⟨hw,rfl,rfl,rfl,fun r j hr hj=>CoP.of_eq ?_⟩
 unfold eu lf
 by_cases h:r = k
 · subst h
   rw [ac6 hi]
   rcases (by omega:j = 0 ∨ j = 1) with rfl | rfl
   · rw [if_pos ⟨rfl,Nat.le_refl _,by simp⟩]
     rfl
   rw [if_neg (by simp)]
   rfl
 rw [if_neg (by omega),getD_set_ne' h]
theorem ak4 {n:Nat} {cl:Bool} {l:List Fd} (h:n = l.length):CoP (.sl n 2 cl (lf Fd.c l)) (fdl l):=CoP.sl h.symm (.inl rfl) (fun h=>by cases h) fun _ _ _ _=>CoP.refl _
def qr:Nat → List Fd → Nat → List Fd
 | 0,l,_=>l
 | f + 1,l,i=>if i < l.length then (if abl l i then qr f (jw l i) i else qr f l (i + 1)) else l
theorem aj3 {l:List Fd} {i:Nat} (hi:i < l.length) (h:abl l i = true):qr (l.length - i) l i = qr ((jw l i).length - i) (jw l i) i:=by
 rw [kn hi,show l.length - i = (l.length - 1 - i) + 1 by omega]
 show (if i < l.length then (if abl l i then _ else _) else l) = _
 rw [if_pos hi,h]
 rfl
theorem al6 {l:List Fd} {i:Nat} (hi:i < l.length) (h:abl l i = false):qr (l.length - i) l i = qr (l.length - (i + 1)) l (i + 1):=by
 rw [show l.length - i = (l.length - (i + 1)) + 1 by omega]
 show (if i < l.length then (if abl l i then _ else _) else l) = _
 rw [if_pos hi,h]
 rfl
theorem ar7 {l:List Fd} {i:Nat} (hi:¬ i < l.length):qr (l.length - i) l i = l:=by rw [show l.length - i = 0 by omega];rfl
def spl (l:List Fd):List Fd:=gu (jh l)
def a0d (l:List Fd):List Fd:=gu (jm (spl l) (spl l).length)
def ae6 (l:List Fd):List Fd:=qr (a0d l).length (a0d l) 0
theorem akz (l:List Fd):(spl l).length ≤ 32 * l.length:=Nat.le_trans (a3c _) (a1f l)
theorem a87 (l:List Fd):(a0d l).length ≤ 32 * l.length:=Nat.le_trans (a3c _) (by rw [mo];exact akz l)
def bd5 (t:AS) (l:List Fd):Prop:=∀ x ∈ l,sub x.lhs t
end
end Go.Hx
