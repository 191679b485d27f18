/- A part of the proof: SrW Cs10 V8 Cs11 Gr V9 Cs12 V10 Cs13 V11 Cs14 V12. -/
import Derived.Shelf.SlSortCmp.NoneTotal
import Derived.Test.YtkkenjdfbojdlaaGreatDoorGx15
import Derived.Test.YtkkenjdfbojdlaaGreatDoorGx17
import Derived.Test.YtkkenjdfbojdlaaGreatDoorGx18
set_option linter.all false
set_option maxRecDepth 100000
set_option maxHeartbeats 1000000
namespace Go.Hx
section
open Go.Proofs Go.RowKit Go.Sort
section
variable {w:World}
theorem as8 {w':World} (h:Below w.heap.size w w'):∃ q os,w' = grow (w.drewN q) os:=by
 refine ⟨w'.drawn - w.drawn,w'.heap.extract w.heap.size w'.heap.size, ?_⟩;have hd:=h.drawn;obtain ⟨h1,h2,h3,h4,h5,_⟩:=h
 cases w with
 | mk hp tp dr os out =>
 cases w' with
 | mk hp' tp' dr' os' out' =>
 dsimp only at *;subst h1 h2 h3;unfold grow World.drewN;simp only [World.mk.injEq,true_and,and_true];refine ⟨?_,by omega⟩;apply Array.ext_getElem?;intro k;rw [Array.getElem?_append];by_cases hk:k < hp.size
 · rw [if_pos hk,h5 k hk]
 rw [if_neg hk,Array.getElem?_extract];by_cases hk2:k < hp'.size
 · rw [if_pos bos]
   congr 1;omega
 rw [if_neg bos,bn0 bos]
variable {os:Array Obj} {α:Type} {d:Array α} {enc:α -> Value}
theorem aqv [Inhabited α] {g m:Nat} {cur:Array Value} {e:TypeId} {fr:Nat × Nat} (h:w.heap[g]? = some (.cells cur e fr)):
 (sortWorld enc w g 0 m d os).heap[g]? = some (.cells (putCells enc 0 d cur) e fr):=by
 have hlt:=(bkn.1 h).1;unfold sortWorld;rw [heap_grow_old _ _ (by simpa using hlt)];unfold putRow mapBlock;simp only [heap_ahead,bna,if_true,h];rfl
theorem a34 [Inhabited α] {g m:Nat} {b:Nat} (hb:b < w.heap.size) (hne:b ≠ g):(sortWorld enc w g 0 m d os).heap[b]? = w.heap[b]?:=by
 unfold sortWorld;rw [heap_grow_old _ _ (by simpa using hb)];unfold putRow mapBlock;simp only [heap_ahead,bna,if_neg (Ne.symm hne)]
theorem aqp [Inhabited α] {g m:Nat}:Below 0 w (sortWorld enc w g 0 m d os) :=
 ⟨rfl,rfl,rfl,by unfold sortWorld;simp,fun k hk=>absurd hk (bkp k),by unfold sortWorld grow;simp⟩
theorem b0f [Inhabited α] {cur:Array Value} (h:d.size <= cur.size):(putCells enc 0 d cur).toList.take d.size = d.toList.map enc:=by
 apply bn9;intro k;rw [blp,bl6,bnb,bnb];by_cases hk:k < d.size
 · rw [if_pos hk]
   unfold putCells;rw [Array.getElem?_mapIdx,blj bos,blj hk];simp only [bl8,blc,bo8];rw [if_pos ⟨bkl _,hk⟩,getElem!_pos d k hk]
 rw [if_neg hk,bn0 bos];rfl
theorem axz {P:Program} {ρ:Go.Shelf.Ren} [Inhabited α] (L:SlLaysF.n6 P ρ) (enc:α -> Value) (h1:∀ x,(enc x).oneCell' = true) (cf:α -> α -> Int) (hO:SWO (ltOf cf)) (hT:∀ x y,(ltOf cf) x y = false -> (ltOf cf) y x = false -> x = y) (g:Nat) (caps:Nat -> PV) (hg:∀ args w,(callFunc g args).run P w = .ok (.enter g args) w) (hc:∀ x y,a7 P g [.one (.raw (enc x)), .one (.raw (enc y))] (ae [.one (.raw (.int .i64 (cf x y)))])) (id:Nat) (e:TypeId) (l:List α) (hsz:l.length <= 8589934592):
 da P (ρ.f 6) [.one (.ref id l.length), .one (.p (.fn g 0 caps))] [(id, .arr true 1 e l.length (lf (fun x _=>.raw (enc x)) l))] (.tup [])
  [(id, .arr true 1 e l.length (lf (fun x _=>.raw (enc x)) (l.mergeSort fun x y=>!(ltOf cf) y x)))] [id]:=by
 intro w c us hM hus
 match us,hus with
 | [u,v],⟨hu,hv,_⟩ =>
  obtain ⟨cs,rfl,hcl,_⟩:=hv;have hcs:cs = []:=bm8 hcl;subst hcs;have hl1:lk [(id,af.arr true 1 e l.length (lf (fun x _=>.raw (enc x)) l))] id = some (.arr true 1 e l.length (lf (fun x _=>.raw (enc x)) l)):=by simp [lk]
  have hu2:=(hu.2.2 _ _ _ _ hl1 rfl).2 rfl;subst hu2;have hob:=hM.objs id _ hl1;obtain ⟨h0,hmax,h5⟩:=hob;have hlen:(l.mergeSort fun x y=>!(ltOf cf) y x).length = l.length:=bop _
  have hev:∀ f':Nat -> Nat -> PV,Evo c (lk [(id,af.arr true 1 e l.length (lf (fun x _=>.raw (enc x)) l))]) c (lk [(id,af.arr true 1 e l.length f')]) id:=fun f' =>
   .inr (.inr ⟨_, .arr true 1 e l.length f',1,e,l.length,l.length,hl1,rfl,by simp [lk],rfl,bko _,fun _=>rfl,fun _ _ _ _ _ _ _ h=>by cases h⟩)
  rcases bmj l.length with hz | hpos
  ·
   have hl:l = []:=bm8 hz;subst hl
   have hform:∃ ad cap,c.own id = .slice ad 0 cap:=by
    rcases h5 with ⟨_,xs,h2,_⟩ | ⟨_,_,ad,cap,hv,_⟩
    · rcases h2.2 with ⟨hv,_⟩ | ⟨g,cap,cur,hv,_⟩
      · exact ⟨none,0,hv⟩
      exact ⟨_,cap,hv⟩
    exact ⟨ad,cap,hv⟩
   obtain ⟨ad,cap,hown⟩:=hform;have hms:([]:List α).mergeSort (fun x y=>!(ltOf cf) y x) = []:=by simp
   rw [hown,hms];refine (AnyF.slices_SortFunc_none { L with } ad cap (.func (.func g) #[] #[]) w).mono ?_;rintro e' w' ⟨rfl,rfl⟩
   exact ⟨_,c,rfl,⟨[],rfl,trivial⟩,hM,Below.refl _ _,fun _ _ _=>⟨rfl,rfl⟩,fun id0 ob b ho hb=>.inr ⟨id0,ob,ho,hb⟩,fun id0 hid=>by
    rw [bl3.1 hid]
    exact Evo.refl _ _ _⟩
  obtain ⟨h6,xs,h2,h4⟩:c.blk id = j2 (c.own id) /\ ∃ xs,w.ownsRow 0 e 1 (c.own id) l.length xs /\ ∀ i j,i < l.length -> j < 1 -> ∃ x,xs[i * 1 + j]? = some x /\ b5 c.imm (lf (fun x _=>.raw (enc x)) l i j) x:=by
   rcases h5 with h5 | ⟨h6 | h6,_⟩
   · exact h5
   · cases h6
   omega
  obtain ⟨hxl,hrow⟩:=h2
  rcases hrow with ⟨_,hz⟩ | ⟨b,cap,cur,hown,hbase,hheap,hnc,hcm,hcs,htake⟩
  · omega
  have hblk:c.blk id b:=by rw [h6,hown];rfl
  have hlt:b < w.heap.size:=(bkn.1 hheap).1
  have hcell:∀ j,(hj:j < l.length) -> cur[j]? = some (enc l[j]):=fun j hj=>by
   obtain ⟨x,hx,hr⟩:=h4 j 0 hj bos;rw [bol,bn4,<- htake,blp,if_pos bos,bnb] at hx;rw [hx];have hr:x = enc (l.getD j default) /\ _:=hr;rw [hr.1,bkk,bkj hj];rfl
  have hH:Holds enc w b 0 l.toArray:=fun j hj=>by
   have hj:j < l.length:=by simpa using hj
   rw [blc];refine ⟨?_,by simp [World.frozen?,hheap]⟩;have:l.toArray[j]! = l[j]:=by rw [getElem!_pos l.toArray j (by simpa using hj)];simp
   rw [this];simp [World.cell?,hheap,hcell j hj]
  have hcmp:CmpLays1 P g #[] enc cf b 0 l.toArray.size w:=by
   intro m os dk hdk x y
   have hcimm:∀ b' ob,c.imm b' = some ob -> (sortWorld enc w b 0 m dk os).heap[b']? = some ob:=fun b' ob hb'=>by
    have hne:b' ≠ b:=fun he=>by
     have:=hM.sep id _ b hl1 hblk;rw [<- he,hb'] at this;cases this
    have hw:=hM.imm b' ob hb';rw [a34 (bkn.1 hw).1 hne];exact hw
   have h:=hc x y (sortWorld enc w b 0 m dk os) c.imm [enc x,enc y] c.tab hcimm ⟨⟨rfl,h1 x⟩,⟨rfl,h1 y⟩,trivial⟩;refine h.mono ?_;rintro e' w' ⟨v,imm',rfl,hr,_,_,hb⟩;obtain ⟨q,os',hq⟩:=as8 hb;exact ⟨by rw [hr.1],q,os',hq⟩
  have hS:=Any.slices_SortFunc_total L enc h1 cf hO g #[] b 0 cap l.toArray w hg hcmp hH hlt (by rw [blv];omega) hT;rw [hown];refine Calls.mono hS ?_;rintro e' w' ⟨rfl,m,os,rfl⟩;generalize hSd:(l.mergeSort fun x y=>!(ltOf cf) y x) = S at *
  refine ⟨_,c,rfl,⟨[],rfl,trivial⟩,⟨fun id0 ob ho=>?_,fun id0 id1 ob0 ob1 b' ho0 ho1 _ _=>(ir ho0).1.trans (ir ho1).1.symm,fun b' ob hb'=>?_,fun id0 ob b' ho hb'=>?_⟩,aqp,
   fun b' hb' hno=>⟨a34 hb' (fun he=>hno id _ hl1 (by rw [he];exact hblk)),rfl⟩,fun id0 ob b' ho hb'=>.inr ⟨id,_,hl1,by rw [<- (ir ho).1];exact hb'⟩,fun id0 hid=>by
    rw [bl3.1 hid]
    exact hev _⟩
  · obtain ⟨rfl,rfl⟩:=ir ho
    refine ⟨h0,hmax, .inl ⟨h6,S.map enc,⟨by simp [hlen], .inr ⟨b,cap,putCells enc 0 S.toArray cur,hown,hbase,aqv hheap,hnc,hcm,by simpa [putCells] using hcs, ?_⟩⟩,fun i j hi hj=>?_⟩⟩
    · have:=b0f (enc:=enc) (d:=S.toArray) (cur:=cur) (by rw [blv,hlen,hcs];omega)
      rw [blv,hlen] at this;rw [bol];exact this
    obtain rfl:j = 0:=by omega
    have hi':i < S.length:=by rw [hlen];exact hi
    refine ⟨enc S[i], ?_, ?_⟩
    · rw [bol,bn4,bl6,bkj hi']
      rfl
    show b5 c.imm (.raw (enc (S.getD i default))) _;rw [bkk,bkj hi'];exact ⟨rfl,h1 _⟩
  · have hne:b' ≠ b:=fun he=>by
     have:=hM.sep id _ b hl1 hblk;rw [<- he,hb'] at this;cases this
    have hw:=hM.imm b' ob hb';rw [a34 (bkn.1 hw).1 hne];exact hw
  have:=(ir ho).1;subst this;exact hM.sep id0 _ b' hl1 hb'
 | [],h=>exact h.elim
 | [_],⟨_,h⟩=>exact h.elim
 | _ :: _ :: _ :: _,⟨_,_,h⟩=>exact h.elim
theorem a2l {a b:AS}:ltOf a2u a b = bef a b:=ayt
theorem b1d:SWO (ltOf a2u) where
 irrefl x:=by rw [a2l];exact a26 x
 trans x y z h k:=by rw [a2l] at *;exact sg h k
 ntrans x y z h k:=by
  rw [a2l] at *;rw [bkv,ne_eq,my] at *;omega
def srt (l:List AS):List AS:=l.mergeSort fun x y=>!bef y x
theorem ap5:goodFn Tryz.prog 214:=⟨Tryz.f214,Tryz.func214,by kernel_rfl,by kernel_rfl⟩
theorem b3i (id:Nat) (caps:Nat -> PV) (l:List AS) (hsz:l.length <= 8589934592):da Tryz.prog 214 [.one (.ref id l.length), .one (.p (.fn 215 0 caps))] [(id, .arr true 1 46 l.length (lf sC l))] (.tup [])
 [(id, .arr true 1 46 l.length (lf sC (srt l)))] [id]:=by
 have h:=axz Tryz.laysSort (fun s:AS=>.int .u32 (asI s)) (fun _=>rfl) a2u b1d (fun x y h k=>by
  rw [a2l] at h k;apply Classical.byContradiction;intro hne
  rcases a7j hne with h2 | h2
  · rw [h] at h2;cases h2
  rw [k] at h2;cases h2) 215 caps (enters_of Tryz.func215 (by kernel_rfl) rfl) (fun x y=>ayn x y) id 46 l hsz
 have e:(fun x y:AS=>!(ltOf a2u) y x) = fun x y=>!bef y x:=by
  funext x y;rw [a2l]
 rw [e] at h;exact h
theorem b6b {l:List AS} {x:AS}:x ∈ srt l <-> x ∈ l:=by unfold srt;exact List.mem_mergeSort
theorem a79 (l:List AS):(srt l).length = l.length:=bop _
theorem a5s:∀ {l:List AS} {p:Option AS},l.Pairwise (fun a b=>bef b a = false) -> (∀ x,p = some x -> ∀ y ∈ l,bef y x = false) -> (kr p l).Pairwise (fun a b=>bef a b = true) /\ ∀ x,p = some x -> ∀ y ∈ kr p l,bef x y = true
 | [],p,_,_=>⟨by simp [kr],fun x _ y hy=>by simp [kr] at hy⟩
 | z :: l,p,h,hp=>by
  obtain ⟨h1,h2⟩:=bls.1 h;simp only [kr];split
  · rename_i e
    subst e;exact a5s h2 fun x hx y hy=>hp x hx y (bm1 _ hy)
  rename_i hne
  obtain ⟨q1,q2⟩:=a5s (p:=some z) h2 fun x hx y hy=>by
   simp only [bki] at hx;subst hx;exact h1 y hy
  refine ⟨bls.2 ⟨fun y hy=>q2 z rfl y hy,q1⟩,fun x hx y hy=>?_⟩
  have hxz:bef x z = true:=by
   have h3:=hp x hx z bly
   rcases a7j (a:=x) (b:=z) (fun e=>hne (by rw [hx,e])) with h4 | h4
   · exact h4
   rw [h3] at h4;cases h4
  rcases bkx.1 hy with rfl | hy
  · exact hxz
  exact sg hxz (q2 z rfl y hy)
theorem a2v (l:List AS):j3 (srt l) = ord l:=by
 refine avr (a5s ?_ fun x hx=>by cases hx).1 fun z=>by rw [alz,b6b]
 have h:=List.pairwise_mergeSort (le:=fun x y:AS=>!bef y x) (fun a b c h k=>by
  simp only [blg] at *;rw [bkv,ne_eq,my] at *
  omega) (fun a b=>by
  simp only [bmf,blg];rw [bkv,bkv,ne_eq,ne_eq,my,my]
  omega) l
 refine h.imp fun {a b} hab=>?_;simpa using hab
end
end
section
abbrev vB (b:Bool):HR:=bn (.raw (.bool b))
abbrev bx (a:PV):PV:=.vp 1 fun j=>[a].getD j .any
def wt (W:AS -> AS -> Bool) (l:List AS) (x:AS):Bool:=l.any fun b=>decide (x ≠ b) && W x b
def a3z (W:AS -> AS -> Bool) (l:List AS):List AS:=(ord l).filter fun x=>!wt W (ord l) x
def ux (a b:AS):Bool:=decide (sub a b)
def iz (l:List AS):List AS:=a3z ux l
theorem a0b (l:List AS):(ord l).Nodup:=(jb l).imp fun {a b} h e=>by
 subst e;rw [a26] at h;cases h
def okT (l:List AS) (i k:Nat):Bool:=(List.range k).all fun j=>decide (j = i) || !ux (l.getD i default) (l.getD j default)
def bjm (l:List AS) (i:Nat):List AS:=((ord l).take i).filter fun x=>!wt ux (ord l) x
end
section
open Go.Proofs
theorem xx:goodFn Tryz.prog 169:=wgx Tryz.func169
theorem a51 (l:List AS) (hl:l.length <= 8589934592):a7 Tryz.prog 169 [pP (asl l)] (ae [pP (asl (ord l))]):=by
 refine hpx (nt:=10) Tryz.func169 ?_;refine w_7 ?_;refine fc9 wn (a1e l.length false (lf sC l) bos) trivial ?_;refine w_5 ?_;refine fc9 ap5 (b3i 0 _ l hl) ⟨u9,trivial⟩ ?_;refine w_4 ?_;refine gi rfl rfl rfl rfl rfl rfl aoj ((aye (srt l)).swap 900 0) (⟨congrArg (HV.ref 0) (a79 l).symm,trivial⟩) ⟨⟨_,rfl,f5 rfl (a79 l).symm⟩,trivial⟩ rfl rfl ?_;refine w_2 ?_;exact hx8 rfl rfl rfl (⟨CoC.one (CoP.of_eq (by rw [a2v])),trivial⟩)
theorem b5c:goodFn Tryz.prog 186:=wgx Tryz.func186
theorem b82 (b x:AS) (g k:Nat) (caps:Nat -> PV) (W:AS -> AS -> Bool) (hg:goodFn Tryz.prog g) (hW:∀ x y,a7 Tryz.prog g (pA x :: pA y :: gv caps k 0) (ae [pB (W x y)])):a7 Tryz.prog 186 [pA b,pP (bx (asC x)),pP (bx (.fn g k caps))] (ae [pB (decide (x ≠ b) && W x b)]):=by
 refine hpx (nt:=14) Tryz.func186 ?_;refine ce ?_;refine am rfl rfl (fun r0=>?_) (fun r0=>?_)
 ·
  have h0:=tz2 (d6 r0);(iterate 3 refine qy ?_ (hg:=(gtt r0)));refine rc rfl rfl rfl rfl rfl rfl hg (hW x b) (CoL.refl _) rfl (gtt r0) ?_;refine w_3 ?_
  exact hx8 rfl rfl rfl (⟨ccb (by simp_all [cg]),trivial⟩)
 have h0:=tz1 (d5 r0);(iterate 4 refine k9 (gft r0) ?_);refine rq rfl rfl rfl rfl rfl ?_ (hp:=r0);refine w_2 ?_
 exact hx8 rfl rfl rfl (⟨ccb (by simp_all [cg]),trivial⟩)
theorem b4r:goodFn Tryz.prog 185:=wgx Tryz.func185
theorem bds (x:AS) (l:List AS) (g k:Nat) (caps:Nat -> PV) (W:AS -> AS -> Bool) (hg:goodFn Tryz.prog g) (hW:∀ x y,a7 Tryz.prog g (pA x :: pA y :: gv caps k 0) (ae [pB (W x y)])):a7 Tryz.prog 185 [pA x,pP (bx (asl l)),pP (bx (.fn g k caps))] (ae [pB (wt W l x)]):=by
 refine hpx (nt:=8) Tryz.func185 ?_;refine sx7 ?_;refine m9 0 ?_;refine w_3 ?_;refine d4 3 rfl rfl rfl ?_;refine w_3 ?_;refine qcx aet (ar0 l 186 2 (fun i=>[bx (asC x),bx (.fn g k caps)].getD i .any) (fun b=>decide (x ≠ b) && W x b) b5c (fun b=>b82 b x g k caps W hg hW)) ?_;refine w_2 ?_;exact hx8 rfl rfl rfl (CoL.refl _)
theorem apc:goodFn Tryz.prog 137:=wgx Tryz.func137
theorem b3d (l:List AS) (hl:l.length <= 8589934592) (g k:Nat) (caps:Nat -> PV) (W:AS -> AS -> Bool) (hg:goodFn Tryz.prog g) (hW:∀ x y,a7 Tryz.prog g (pA x :: pA y :: gv caps k 0) (ae [pB (W x y)])):a7 Tryz.prog 137 [pP (asl l),pP (.fn g k caps)] (ae [pP (asl (a3z W l))]):=by
 refine hpx (nt:=12) Tryz.func137 ?_;refine sx7 ?_;refine m9 2 ?_;refine w_5 ?_;refine qcx xx (a51 l hl) ?_;refine m9 3 ?_;refine w_3 ?_;refine d4 5 rfl rfl rfl ?_;refine d4 3 rfl rfl rfl ?_;refine w_2 ?_;refine fc9 wn (a1e (ord l).length false (lf sC (ord l)) (bky (ln l) bos)) trivial ?_;refine qy ?_;refine fc9 adv ((as2 (ord l) 185 2 (fun i=>[bx (asl (ord l)),bx (.fn g k caps)].getD i .any) (wt W (ord l)) b4r (fun x=>bds x (ord l) g k caps W hg hW)).swap 900 0) ⟨u9,trivial⟩ ?_;refine w_2 ?_;exact hx8 rfl rfl rfl (CoL.refl _)
theorem b7i:goodFn Tryz.prog 138:=wgx Tryz.func138
theorem bf6 (a b:AS):a7 Tryz.prog 138 [pA a,pA b] (ae [pB (ux a b)]):=by
 refine hpx (nt:=9) Tryz.func138 ?_;refine ef ?_;exact hx8 rfl rfl rfl (⟨ccb (decide_eq_decide.2 jd),trivial⟩)
theorem ai9:goodFn Tryz.prog 75:=wgx Tryz.func75
theorem a9t (l:List AS) (hl:l.length <= 8589934592):a7 Tryz.prog 75 [pP (asl l)] (ae [pP (asl (iz l))]):=by
 refine hpx (nt:=5) Tryz.func75 ?_;refine w_7 ?_;refine qcx apc (b3d l hl 138 0 _ ux b7i (fun a b=>bf6 a b)) ?_;refine w_2 ?_;exact hx8 rfl rfl rfl (CoL.refl _)
end
section
def i6 (l:List Fd):List Fd:=l.foldl (fun o x=>if x ∈ o then o else o ++ [x]) []
section
variable {i:Nat} {l:List Fd}
theorem ac2 (hi:i < l.length):i6 (l.take (i + 1)) = if l.getD i default ∈ i6 (l.take i) then i6 (l.take i) else i6 (l.take i) ++ [l.getD i default]:=by
 unfold i6;rw [ay hi,bm0];rfl
theorem ai5 {s:Fd}:(l.any fun x=>decide (x = s)) = decide (s ∈ l):=by
 rw [bme,bll,decide_eq_true_iff];constructor
 · rintro ⟨x,hx,h⟩
   exact of_decide_eq_true h ▸ hx
 intro h;exact ⟨s,h,decide_eq_true rfl⟩
theorem a7m (hi:i < l.length) (h:((i6 (l.take i)).any fun x=>decide (x = l.getD i default)) = false):i6 (l.take (i + 1)) = i6 (l.take i) ++ [l.getD i default]:=by
 rw [ai5] at h;rw [ac2 hi,if_neg (of_decide_eq_false h)]
theorem a88 (hi:i < l.length) (h:((i6 (l.take i)).any fun x=>decide (x = l.getD i default)) = true):i6 (l.take (i + 1)) = i6 (l.take i):=by
 rw [ai5] at h;rw [ac2 hi,if_pos (of_decide_eq_true h)]
theorem aft:∀ (l o:List Fd),(l.foldl (fun o x=>if x ∈ o then o else o ++ [x]) o).length <= o.length + l.length /\ ∀ z,z ∈ l.foldl (fun o x=>if x ∈ o then o else o ++ [x]) o <-> z ∈ o \/ z ∈ l
 | [],o=>⟨by simp,fun z=>by simp⟩
 | x :: l,o=>by
  obtain ⟨h1,h2⟩:=aft l (if x ∈ o then o else o ++ [x]);simp only [bmr];refine ⟨?_,fun z=>?_⟩
  · refine bky h1 ?_
    split <;> simp <;> omega
  rw [h2 z,bkx];split
  · rename_i hx
    constructor
    · rintro (h | h) <;> simp [h]
    rintro (h | rfl | h)
    · exact .inl h
    · exact .inl hx
    exact .inr h
  rw [bl4,bl3];constructor
  · rintro ((h | h) | h) <;> simp [h]
  rintro (h | h | h) <;> simp [h]
theorem a5l (l:List Fd):(i6 l).length <= l.length:=by
 have:=(aft l []).1;simpa [i6] using this
def bje (l:List Fd) (i k:Nat):Bool:=(l.take k).any fun x=>decide (x = l.getD i default)
def a2m (f:Fd):List Fd:=(al (f.rhs &&& ~~~f.lhs)).map fun a=>(⟨f.lhs,(1:AS) <<< a⟩:Fd)
def kw (l:List Fd):List Fd:=(l.map a2m).flatten
def nq (l:List Fd) (i k:Nat):List Fd:=kw (l.take i) ++ (a2m (l.getD i default)).take k
theorem a3e (f:Fd):(a2m f).length = (al (f.rhs &&& ~~~f.lhs)).length:=by unfold a2m;rw [bl7]
theorem ng (s:AS):(al s).length <= 32:=by rw [<- sx];exact aj8 s
theorem a8k (l:List Fd) (i:Nat):nq l i 0 = kw (l.take i):=by unfold nq;rw [List.take_zero,blq]
theorem a8p {k:Nat} {m:List Nat} (hm:m = al ((l.getD i default).rhs &&& ~~~(l.getD i default).lhs)) (hk:k < m.length):nq l i (k + 1) = nq l i k ++ [⟨(l.getD i default).lhs,(1:AS) <<< m.getD k default⟩]:=by
 subst hm;unfold nq;generalize l.getD i default = x at *;rw [List.take_add_one,blw];congr 1;congr 1;unfold a2m;rw [bl6,bkj hk,bkk,bkj hk];rfl
theorem ab6 (hi:i < l.length) {k:Nat} (hk:k = (al ((l.getD i default).rhs &&& ~~~(l.getD i default).lhs)).length):nq l i k = kw (l.take (i + 1)):=by
 subst hk;unfold nq kw;rw [<- a3e,bks,ay hi,bmw,List.flatten_append];simp
theorem a38 (l:List Fd):(kw l).length <= 32 * l.length:=by
 induction l with
 | nil=>simp [kw]
 | cons x l ih =>
  have h:kw (x :: l) = a2m x ++ kw l:=by simp [kw]
  have h2:=a3e x;have h3:=ng (x.rhs &&& ~~~x.lhs);rw [h,bkq,blf];omega
theorem ar1 {k:Nat} (hi:i <= l.length):(nq l i k).length <= 32 * l.length + 32:=by
 have h1:=a38 (l.take i);have h2:=ng ((l.getD i default).rhs &&& ~~~(l.getD i default).lhs);rw [bku] at h1;unfold nq;rw [bkq,bku,a3e];omega
def exB (l:List Fd) (x:Fd) (a:Nat):Bool:=imp l ⟨x.lhs &&& ~~~((1:AS) <<< a),x.rhs⟩
theorem a7c (s:AS) (a:Nat):aw .andNot .u32 (asI s) (IntKind.wrap .u32 (1 * 2 ^ (min a 32))) = asI (s &&& ~~~((1:AS) <<< a)):=by
 rw [show IntKind.wrap .u32 (1 * 2 ^ (min a 32)) = asI ((1:AS) <<< a) from akq 1 a,go]
theorem b3x (a:Nat):IntKind.wrap .u32 (1 * 2 ^ (min a 32)) = asI ((1:AS) <<< a):=akq 1 a
def ll (l:List Fd) (i:Nat):List Fd:=l.take i ++ l.drop (i + 1)
def af2 (l:List Fd) (i:Nat):Bool:=imp (ll l i) (l.getD i default)
theorem lz (hi:i < l.length):(ll l i).length = l.length - 1:=by unfold ll;rw [bkq,bku,bma];omega
end
end
section
open Go.Proofs Go.Lib Go.RowKit
set_option maxHeartbeats 4000000 in
set_option maxRecDepth 100000 in
theorem ale (k:Nat) (hk:0 < k) (hbig:k * 8 <= 140737488355328) (w:World) (ad:Option Addr) :
 Calls Tryz.prog 278 #[.slice ad 0 0, .int .i64 k] w fun e w'=>∃ G ROW,e = .returned (.slice (some ⟨w.heap.size,0,none⟩) 0 G) /\ G <= maxLen /\ w' = w.drew.alloc (.cells ROW 48) /\ ROW.size = G * 2:=by
 obtain ⟨i0,z,hi0,hz0,hzs,hzb,hzc⟩:∃ i0 z,Tryz.prog.info? 48 = some i0 /\ i0.zero = some z /\ i0.size = 2 /\ i0.bytes = 8 /\ z.cells.size = 2:=by
  have h:(Tryz.prog.info? 48).map (fun i=>(i.zero.map (fun z=>z.cells.size),i.size,i.bytes)) = some (some 2,2,8):=by kernel_rfl
  cases hq:Tryz.prog.info? 48 with
  | none=>rw [hq] at h;cases h
  | some i0 =>
   rw [hq] at h
   cases hz:i0.zero with
   | none=>simp [hz] at h
   | some z=>simp [hz] at h;exact ⟨i0,z,rfl,hz,h.2.1,h.2.2,h.1⟩
 have hc:0 + k <= maxLen:=by unfold maxLen;omega
 have hold:(Builtin.firstCells i0.size 0 (.slice ad 0 0)).run Tryz.prog w.drew = .ok (([]:List Value)).toArray w.drew:=by
  cases ad with
  | none=>exact run_firstCells_none w.drew _ _ _ _
  | some a=>exact run_firstCells_some w.drew _ 0 a 0 0 [] bow (fun j v hj=>by simp at hj)
 obtain ⟨G,hG⟩:∃ G,G = grownCap w (0 + k) 0 48:=⟨_,rfl⟩;have hGn:0 + k <= G:=by rw [hG];exact grownCap_ge w _ _ _
 have hGm:G <= maxLen:=by rw [hG];exact grownCap_le_maxLen w (0 + k) 0 48 hc
 obtain ⟨ROW,hROW⟩:∃ ROW:Array Value,ROW = ([]:List Value).toArray ++ Builtin.zeroCells z.cells k ++ Builtin.zeroCells z.cells (G - (0 + k)):=⟨_,rfl⟩
 have hrz:(Builtin.append_ #[26,3] 26 #[.slice ad 0 0, .int .i64 (k:Int)]).run Tryz.prog w = .ok (.slice (some ⟨w.heap.size,0,none⟩) k G) (w.drew.alloc (.cells ROW 48)):=by
  have h:=Lib.run_append_grow_zeros w 26 3 26 48 i0 z .i64 .i64 Tryz.underlying26 Tryz.underlying3 hi0 hz0 ad 0 0 [] hold k hk bos bos (by unfold maxLen at hc;omega) (by rw [hzb];omega) (by rw [hzb,blc];exact growslice_fits bos hbig);rw [<- hG,<- hROW] at h;rw [h];simp
 have hRs:ROW.size = G * 2:=by
  rw [hROW];simp only [bnf,blv,bms,size_zeroCells,hzc];omega
 have mixed:=wg;have hcM:G <= 9223372036854775807:=by unfold maxLen at hGm;omega
 have hk0:¬ ((k:Int) < 0):=by omega
 have hk1:(0:Int) < (k:Int):=by omega
 have hw1:IntKind.i64.wrap (k:Int) = (k:Int):=by rw [IntKind.wrap_i64];omega
 clear hG hROW hold
 rcases ad with _ | ⟨ab,ao,asp⟩
 all_goals go_enter Tryz.func278,Tryz.ntmps278
 all_goals go_wp2_with (at_builtin;refine Lib.wpList_append_run _ rfl _ _ _ _ rfl _ _ rfl rfl _ _ hrz ?_)
 all_goals go_ret
 all_goals first | exact ⟨G,ROW,rfl,hGm,rfl,hRs⟩ | exact ⟨G,rfl,hGm,ROW,rfl,hRs⟩
theorem ak1 (w:World) (ad:Option Addr):Calls Tryz.prog 278 #[.slice ad 0 0, .int .i64 0] w fun e w'=>e = .returned (.slice ad 0 0) /\ w' = w:=by
 have mixed:=wg
 go_enter Tryz.func278,Tryz.ntmps278
 go_wp2
 go_ret
 exact ⟨rfl,rfl⟩
theorem bgj (k a:Nat) (hk:k <= 68719476736) (F:Nat -> Nat -> PV) :
 da Tryz.prog 278 [.one (.p (kp (.slice none 0 0))), .one (.p (.raw (.int .i64 k)))] [] (.v (.one (.ref a 0))) [(a, .arr true 2 48 0 F)] []:=by
 refine b1h bos fun w ad=>?_
 rcases bmj k with rfl | hk0
 · refine (ak1 w ad).mono ?_
   rintro e w' ⟨rfl,rfl⟩;exact ⟨_,rfl,Below.refl _ _, .inl rfl⟩
 refine (ale k hk0 bos w ad).mono ?_;rintro e w' ⟨G,ROW,rfl,hG,rfl,hR⟩;refine ⟨_,rfl,⟨rfl,rfl,rfl, ?_,fun q hq=>bbb w.drew _ hq,bnp _⟩, .inr ⟨⟨by simp, .inr ⟨_,G,ROW,rfl,bkl _,heap_alloc_new w.drew _,bkl _,hG,hR,by simp⟩⟩,fun g hg=>?_⟩⟩
 · show _ <= (w.heap.push _).size
   rw [Array.size_push];omega
 have:w.heap.size = g:=by simpa [cw] using hg
 omega
end
section
open Go.Proofs
theorem ao4:goodFn Tryz.prog 231:=wgx Tryz.func231
theorem asq (l:List Fd) (hl:l.length <= 16777216):da Tryz.prog 231 [.one (.p (fdl l))] [] (.v (.one (.ref 900 (i6 l).length))) [(900, .arr true 2 48 (i6 l).length (lf Fd.c (i6 l)))] []:=by
 refine hfx (nt:=22) Tryz.func231 ?_;refine ce ?_;refine cb 0 rfl fun hn=>?_;refine w_6 ?_;refine cj 3 900 true 2 48 (lf Fd.c []) boz rfl (CoP.sl rfl (.inr rfl) (fun h=>h) (fun i j hi _=>absurd hi (bkp i))) (.inr rfl) rfl ?_;refine a6 (ι:=Nat) ⟨[(6,some _),(7,some _)],[]⟩ ⟨⟨c9,c9,trivial⟩,trivial⟩ (fun i=>⟨[(3,some (.v (.one (.ref 900 (i6 (l.take i)).length)))),(8,some (vI i))],[(900,some (.arr true 2 48 (i6 (l.take i)).length (lf Fd.c (i6 (l.take i)))))]⟩) (fun i=>i <= l.length) (fun i=>l.length - i) (0) (bkl _) ⟨⟨zy,zy,trivial⟩,⟨u9,trivial⟩⟩ ?_;rintro i hi;have hlen:=a5l (l.take i);rw [bku] at hlen;refine w_5 ?_;refine hcd (fun h0=>?_) (fun h0=>?_)
 ·
  refine w_7 ?_;refine m9 0 ?_;refine w_6 ?_;refine qcx b4w (bj1 (i6 (l.take i)) (l.getD i default)) ?_;refine w_2 ?_;refine a8 _ rfl (fun r1=>?_) (fun r1=>?_)
  ·
   have h1:=d6 r1;have hc:=d6 r1;refine w_3 ?_;refine m9 1 ?_;refine r9 2 true ?_;refine w_6 ?_
   first | (refine ⟨i + 1, ?_, ?_, ?_⟩
            · show i + 1 <= _;omega
            · first | omega | (dsimp only;omega)
            exact ⟨⟨⟨_,rfl,(c7 (a7m bos hc))⟩,zy,c9,c9,trivial⟩,⟨⟨_,rfl,(ow (a7m bos hc) (CoP.refl _) (CoP.refl _))⟩,trivial⟩⟩)
         | (refine ⟨i + 1, ?_, ?_, ?_⟩
            · show i + 1 <= _;omega
            · first | omega | (dsimp only;omega)
            exact ⟨⟨⟨_,rfl,(ca (a88 bos hc))⟩,zy,c9,c9,trivial⟩,⟨⟨_,rfl,(bv (a88 bos hc))⟩,trivial⟩⟩)
  have h1:=d5 r1;have hc:=d5 r1;refine w_5 ?_
  first | (refine ⟨i + 1, ?_, ?_, ?_⟩
           · show i + 1 <= _;omega
           · first | omega | (dsimp only;omega)
           exact ⟨⟨⟨_,rfl,(c7 (a7m bos hc))⟩,zy,c9,c9,trivial⟩,⟨⟨_,rfl,(ow (a7m bos hc) (CoP.refl _) (CoP.refl _))⟩,trivial⟩⟩)
        | (refine ⟨i + 1, ?_, ?_, ?_⟩
           · show i + 1 <= _;omega
           · first | omega | (dsimp only;omega)
           exact ⟨⟨⟨_,rfl,(ca (a88 bos hc))⟩,zy,c9,c9,trivial⟩,⟨⟨_,rfl,(bv (a88 bos hc))⟩,trivial⟩⟩)
 obtain rfl:i = l.length:=by omega
 refine w_7 ?_;refine ⟨.inr rfl, ?_⟩;exact ⟨_,_,rfl,bou,CoR.of_eq (by rw [bks];rfl),⟨⟨_,rfl,f5 (by rw [bks]) (by rw [bks])⟩,trivial⟩⟩
theorem bep (l:List Fd) (hl:l.length <= 16777216):a7 Tryz.prog 231 [pP (fdl l)] (ae [pP (fdl (i6 l))]) :=
 da.pure (args:=[pP (fdl l)]) (l:=[.one (.ref 900 (i6 l).length)]) (asq l hl) rfl ⟨rfl,trivial⟩
end
section
theorem b0m {α:Type} [Inhabited α] {s n k':Nat} {k:Int} {cl:Bool} {c:α -> Nat -> PV} {l:List α} (h:k.toNat = k') (hk:k' <= l.length) :
 CoP (.sl (ek (be n (some k)) none) s cl (rj (lf c l) none)) (psl s c (l.take k')):=by
 subst h;exact aol hk
theorem ayh {α:Type} [Inhabited α] {s n k':Nat} {k:Int} {cl:Bool} {c:α -> Nat -> PV} {l:List α} (hn:n = l.length) (h:k.toNat = k'):CoP (.sl (ek n (some k)) s cl (rj (lf c l) (some k))) (psl s c (l.drop k')):=by
 subst h hn;exact b7n
theorem akj {l:List Fd} {i:Nat}:[l.take i,l.drop (i + 1)].flatten = ll l i:=by simp [ll]
theorem b8p {l:List Fd} {i:Nat} (hi:i < l.length) (hl:l.length <= 16777216):[l.take i,l.drop (i + 1)].flatten.length <= 16777216:=by
 rw [akj,lz hi];omega
theorem bfe {x:Fd} {b:Int} {s:AS} (h:b = asI s):CoC (.agg [.raw (.int .u32 b), .raw (.int .u32 (asI x.rhs))]) (Fd.pc ⟨s,x.rhs⟩):=by
 subst h;exact CoC.refl _
end
section
open Go.Proofs
def rwC (l:List Fd):Nat -> PV
 | 0=>fdl l
 | _=>.any
abbrev bhg (ls:List (List Fd)):PV:=psl 1 rwC ls
theorem b3w:goodFn Tryz.prog 278:=wgx Tryz.func278
theorem b99:goodFn Tryz.prog 254:=wgx Tryz.func254
theorem b5h (ls:List (List Fd)) (h:ls.flatten.length <= 16777216):a7 Tryz.prog 254 [pP (bhg ls)] (ae [pP (fdl ls.flatten)]):=by
 refine hpx (nt:=36) Tryz.func254 ?_;refine ce ?_;refine cb 0 rfl (fun hn=>?_);refine w_6 ?_;refine a6 (ι:=Nat) ⟨[(0,some _),(9,some _),(10,some _)],[]⟩ ⟨⟨c9,c9,c9,trivial⟩,trivial⟩ (fun i=>⟨[(3,some (vI (ls.take i).flatten.length)),(11,some (vI i))],[]⟩) (fun i=>i <= ls.length) (fun i=>ls.length - i) (0) (bkl _) ⟨⟨zy,zy,trivial⟩,trivial⟩ ?_;rintro i hi;refine w_5 ?_;refine hcd (fun h0=>?_) (fun h0=>?_)
 ·
  have hts:(ls.take (i + 1)).flatten.length = (ls.take i).flatten.length + (ls.getD ((i:Nat):Int).toNat default).length:=by rw [tsf _ _ bos,bkq];rfl
  have hfl:(ls.take i).flatten.length + (ls.getD ((i:Nat):Int).toNat default).length <= ls.flatten.length:=a5n ls i bos;refine ay9 ?_;refine hcd (fun h1=>?_) (fun h1=>?_)
  · exfalso;omega
  refine w_5 ?_;refine lpz (i + 1) ⟨⟨zy,zy,c9,c9,c9,trivial⟩,trivial⟩ ?_;show i + 1 <= _;omega
 obtain rfl:i = ls.length:=by omega
 have hfe:(ls.take ls.length).flatten.length = ls.flatten.length:=by rw [bks]
 refine w_4 ?_;refine fc9 b3w (bgj (ls.take ls.length).flatten.length 900 bos (lf Fd.c [])) trivial ?_;refine ce ?_;refine a6 (ι:=Nat) ⟨[(25,some _),(26,some _)],[]⟩ ⟨⟨c9,c9,trivial⟩,trivial⟩ (fun i=>⟨[(6,some (.v (.one (.ref 900 (ls.take i).flatten.length)))),(27,some (vI i))],[(900,some (.arr true 2 48 (ls.take i).flatten.length (lf Fd.c (ls.take i).flatten)))]⟩) (fun i=>i <= ls.length) (fun i=>ls.length - i) (0) (bkl _) ⟨⟨zy,zy,trivial⟩,⟨u9,trivial⟩⟩ ?_;rintro i hi;refine w_5 ?_;refine hcd (fun h2=>?_) (fun h2=>?_)
 ·
  have hts:(ls.take (i + 1)).flatten.length = (ls.take i).flatten.length + (ls.getD ((i:Nat):Int).toNat default).length:=by rw [tsf _ _ bos,bkq];rfl
  have hfl:(ls.take i).flatten.length + (ls.getD ((i:Nat):Int).toNat default).length <= ls.flatten.length:=a5n ls i bos;refine ef ?_;refine r9 0 true ?_;refine w_6 ?_;refine lpz (i + 1) ⟨⟨⟨_,rfl,(CoR.of_eq (by rw [hts]))⟩,zy,c9,c9,trivial⟩,⟨⟨_,rfl,(by rw [tsf _ _ bos];exact aw7 _ (fun h=>h) rfl (fun i j hi hj=>CoP.refl _))⟩,trivial⟩⟩ ?_;show i + 1 <= _;omega
 obtain rfl:i = ls.length:=by omega
 refine w_7 ?_;refine ⟨.inr rfl, ?_⟩;rw [show ls.flatten = (ls.take ls.length).flatten by rw [bks]];exact f9 rfl rfl (CoL.refl _)
theorem anw:goodFn Tryz.prog 233:=wgx Tryz.func233
theorem aom (l:List Fd) (i:Nat) (hi:i < l.length) (hl:l.length <= 16777216):a7 Tryz.prog 233 [pP (fdl l),pI i] (ae [pP (fdl (ll l i))]):=by
 refine hpx (nt:=14) Tryz.func233 ?_;refine w_5 ?_;have hll:=b8p hi hl;refine w_8 ?_;refine m9 0 ?_;refine fc9 b99 (a7.eat (hcs:=[.one (.ref 0 2)]) (o1:=[(0, .arr true 1 26 2 (lf rwC [l.take i,l.drop (i + 1)]))]) (b5h [l.take i,l.drop (i + 1)] hll) rfl (by (repeat' apply And.intro) <;> first | trivial | rfl) (CoL.refl _)) ⟨⟨_,rfl,⟨fun h=>h,rfl,rfl,rfl,fun i j hi hj=>(by have hi:i < 2:=hi;have hj:j < 1:=hj;obtain rfl:j = 0:=bos;rcases (show i = 0 \/ i = 1 by omega) with rfl | rfl;exact b0m rfl bos;exact ayh rfl bos)⟩⟩,trivial⟩ ?_;refine w_3 ?_;exact hx8 rfl rfl rfl (⟨CoC.one (CoP.of_eq (by rw [akj])),trivial⟩)
theorem b9f:goodFn Tryz.prog 232:=wgx Tryz.func232
theorem bd6 (l:List Fd) (i:Nat) (hi:i < l.length) (hl:l.length <= 16777216):a7 Tryz.prog 232 [pP (fdl l),pI i] (ae [pB (af2 l i)]):=by
 refine hpx (nt:=13) Tryz.func232 ?_;refine w_8 ?_;refine qcx anw (aom l i hi hl) ?_;refine w_4 ?_;refine qcx ao6 (beg (ll l i) (l.getD i default)) ?_;refine w_3 ?_;exact hx8 rfl rfl rfl (CoL.refl _)
theorem b8n:goodFn Tryz.prog 230:=wgx Tryz.func230
theorem bcr (l:List Fd) (x:Fd) (a:Nat):a7 Tryz.prog 230 [pP (fdl l),x.pc,pI a] (ae [pB (exB l x a)]):=by
 refine hpx (nt:=17) Tryz.func230 ?_;refine sx7 ?_;refine m9 0 ?_;refine ik ?_;refine rc rfl rfl rfl rfl rfl rfl ao6 (beg l ⟨x.lhs &&& ~~~((1:AS) <<< a),x.rhs⟩) (⟨CoC.refl _,bfe (a7c _ _),trivial⟩) rfl rfl ?_;refine w_3 ?_;exact hx8 rfl rfl rfl (CoL.refl _)
end
section
def bja (l:List Fd) (i k:Nat):List Fd:=kw (l.take i) ++ (f0 ((l.getD i default).rhs &&& ~~~(l.getD i default).lhs) k).map fun a=>(⟨(l.getD i default).lhs,(1:AS) <<< a⟩:Fd)
def aq6 (x:Fd) (a:Nat):Fd:=⟨x.lhs &&& ~~~((1:AS) <<< a),x.rhs⟩
def tt (i:Nat) (l:List Fd) (a:Nat):List Fd:=if dq (l.getD i default).lhs a && exB l (l.getD i default) a then l.set i (aq6 (l.getD i default) a) else l
def qh (l:List Fd) (i k:Nat):List Fd:=((al (l.getD i default).lhs).take k).foldl (tt i) l
def a9x (l:List Fd) (i:Nat):List Fd:=(al (l.getD i default).lhs).foldl (tt i) l
def ko (l:List Fd) (i:Nat):List Fd:=(List.range i).foldl a9x l
section
variable {a i:Nat} {l:List Fd}
theorem al4:(tt i l a).length = l.length:=by
 unfold tt;split
 · rw [bmv]
 rfl
theorem a4u:∀ (m:List Nat) (l:List Fd),(m.foldl (tt i) l).length = l.length
 | [],l=>rfl
 | a :: m,l=>by rw [bmr,a4u m,al4]
variable {k:Nat}
theorem akk:(qh l i k).length = l.length:=a4u _ _
theorem ay5:(a9x l i).length = l.length:=a4u _ _
theorem p8:∀ {i:Nat},(ko l i).length = l.length
 | 0=>rfl
 | i + 1=>by
  unfold ko;rw [bmg,bm0];show (a9x ((List.range i).foldl a9x l) i).length = _;rw [ay5];exact p8 (i:=i)
theorem ax3 (l:List Fd) (i:Nat):ko l (i + 1) = a9x (ko l i) i:=by
 unfold ko;rw [bmg,bm0];rfl
theorem asv (l:List Fd) (i:Nat):qh l i 0 = l:=by unfold qh;rw [List.take_zero];rfl
theorem b2c (hk:k = (al (l.getD i default).lhs).length):qh l i k = a9x l i:=by
 unfold qh a9x;rw [hk,bks]
theorem a0l (hk:k < (al (l.getD i default).lhs).length):qh l i (k + 1) = tt i (qh l i k) ((al (l.getD i default).lhs).getD k default):=by
 unfold qh;rw [ay hk,bm0];rfl
theorem ag6 {x:Fd} (hi:i < l.length):(l.set i x).getD i default = x:=by simp [List.getD,hi]
theorem azz {b:Nat} (hi:i < l.length) (hb:b < 32) (hne:b ≠ a):((tt i l a).getD i default).lhs.getLsbD b = (l.getD i default).lhs.getLsbD b:=by
 unfold tt;split
 · rw [ag6 hi]
   show ((l.getD i default).lhs &&& ~~~((1:AS) <<< a)).getLsbD b = _;rw [bkz,bmq,vj _ _ hb];simp [hb,hne]
 rfl
theorem afl {b:Nat} (hb:b < 32):∀ (m:List Nat) (l:List Fd),i < l.length -> (∀ a ∈ m,b ≠ a) -> ((m.foldl (tt i) l).getD i default).lhs.getLsbD b = (l.getD i default).lhs.getLsbD b
 | [],l,_,_=>rfl
 | a :: m,l,hi,h=>by
  rw [bmr,afl hb m _ (by rw [al4];exact hi) fun c hc=>h c (bm1 _ hc),azz hi hb (h a bly)]
theorem as7 (s:AS):(al s).Pairwise (· < ·):=List.Pairwise.filter _ List.pairwise_lt_range
theorem ajy {m:List Nat} (hk:k < m.length):m.getD k default = m[k]:=by simp [List.getD,hk]
theorem awb {m:List Nat} (hk:k < m.length):m.getD k default ∈ m:=by rw [ajy hk];exact blh hk
theorem ay7 (hi:i < l.length) (hk:k < (al (l.getD i default).lhs).length):dq ((qh l i k).getD i default).lhs (((al (l.getD i default).lhs).getD k default:Nat):Int) = true:=by
 have hm:(al (l.getD i default).lhs).getD k default ∈ al (l.getD i default).lhs:=awb hk;obtain ⟨h1,h2⟩:=jg.1 hm;rw [ja h1];unfold qh;rw [afl h1 _ _ hi,h2];intro a ha;obtain ⟨j,hj,rfl⟩:=bla ha;rw [bku] at hj;rw [List.getElem_take,ajy hk];have:=bmm.1 (as7 (l.getD i default).lhs) j k bos hk bos;exact Nat.ne_of_gt this
theorem ax8 (h:dq (l.getD i default).lhs a = true) (h2:exB l (l.getD i default) a = true):tt i l a = l.set i (aq6 (l.getD i default) a):=by unfold tt;rw [h,h2];rfl
theorem axm (h2:exB l (l.getD i default) a = false):tt i l a = l:=by unfold tt;rw [h2];simp
theorem anr {wr wr':Bool} {n:Nat} {e:TypeId} {l':List Fd} {v:Int} (hl:l' = l.set i (aq6 (l.getD i default) a)) (hv:v = asI ((l.getD i default).lhs &&& ~~~((1:AS) <<< a))) (hk:k = i) (hi:i < l.length) (hn:n = l.length) (hw:wr' = true -> wr = true:=by exact fun h=>h):
 CoO (.arr wr 2 e n (er (lf Fd.c l) k 0 [.raw (.int .u32 v)])) (.arr wr' 2 e n (lf Fd.c l')):=by
 subst hl hv hk hn;refine ⟨hw,rfl,rfl,rfl,fun r j hr hj=>CoP.of_eq ?_⟩;unfold er lf;by_cases h:r = k
 · subst h
   rw [ag6 hi]
   rcases (by omega:j = 0 \/ j = 1) with rfl | rfl
   · rw [if_pos ⟨rfl,bko _,by simp⟩]
     rfl
   rw [if_neg bow];rfl
 rw [if_neg bos,getD_set_ne' h]
theorem apa {n:Nat} {cl:Bool} (h:n = l.length):CoP (.sl n 2 cl (lf Fd.c l)) (fdl l):=CoP.sl h.symm (.inl rfl) (fun h=>by cases h) fun _ _ _ _=>CoP.refl _
def ug:Nat -> List Fd -> Nat -> List Fd
 | 0,l,_=>l
 | f + 1,l,i=>if i < l.length then (if af2 l i then ug f (ll l i) i else ug f l (i + 1)) else l
theorem anm (hi:i < l.length) (h:af2 l i = true):ug (l.length - i) l i = ug ((ll l i).length - i) (ll l i) i:=by
 rw [lz hi,show l.length - i = (l.length - 1 - i) + 1 by omega];show (if i < l.length then (if af2 l i then _ else _) else l) = _;rw [if_pos hi,h];rfl
theorem apx (hi:i < l.length) (h:af2 l i = false):ug (l.length - i) l i = ug (l.length - (i + 1)) l (i + 1):=by
 rw [show l.length - i = (l.length - (i + 1)) + 1 by omega];show (if i < l.length then (if af2 l i then _ else _) else l) = _;rw [if_pos hi,h];rfl
theorem axv (hi:¬ i < l.length):ug (l.length - i) l i = l:=by rw [show l.length - i = 0 by omega];rfl
def spl (l:List Fd):List Fd:=i6 (kw l)
def a29 (l:List Fd):List Fd:=i6 (ko (spl l) (spl l).length)
def ajh (l:List Fd):List Fd:=ug (a29 l).length (a29 l) 0
theorem aop (l:List Fd):(spl l).length <= 32 * l.length:=bky (a5l _) (a38 l)
theorem ab2 (l:List Fd):(a29 l).length <= 32 * l.length:=bky (a5l _) (by rw [p8];exact aop l)
def bjq (t:AS) (l:List Fd):Prop:=∀ x ∈ l,sub x.lhs t
end
end
section
open Go.Proofs
theorem b5p:goodFn Tryz.prog 229:=wgx Tryz.func229
theorem b5r (l:List Fd) (hl:l.length <= 4096):da Tryz.prog 229 [.one (.p (fdl l))] [] (.v (.one (.ref 900 (spl l).length))) [(900, .arr true 2 48 (spl l).length (lf Fd.c (spl l)))] []:=by
 refine hfx (nt:=37) Tryz.func229 ?_;refine ce ?_;refine cb 0 rfl fun hn=>?_;refine w_6 ?_;refine cj 3 901 true 2 48 (lf Fd.c []) boz rfl (CoP.sl rfl (.inr rfl) (fun h=>h) (fun i j hi _=>absurd hi (bkp i))) (.inr rfl) rfl ?_;refine a6 (ι:=Nat) ⟨[(8,some _),(9,some _)],[]⟩ ⟨⟨c9,c9,trivial⟩,trivial⟩ (fun i=>⟨[(3,some (.v (.one (.ref 901 (kw (l.take i)).length)))),(10,some (vI i))],[(901,some (.arr true 2 48 (kw (l.take i)).length (lf Fd.c (kw (l.take i)))))]⟩) (fun i=>i <= l.length) (fun i=>l.length - i) (0) (bkl _) ⟨⟨zy,zy,trivial⟩,⟨u9,trivial⟩⟩ ?_;rintro i hi;refine w_5 ?_;refine hcd (fun h0=>?_) (fun h0=>?_)
 ·
  refine w_7 ?_;refine m9 0 ?_;refine w_9 ?_;refine rc rfl rfl rfl rfl rfl rfl a2k (ad4 ((l.getD i default).rhs &&& ~~~(l.getD i default).lhs)) (⟨cci (go _ _),trivial⟩) rfl rfl ?_;refine w_4 ?_;refine a6 (ι:=Nat) ⟨[(5,some _),(8,some _),(9,some _),(10,some _),(19,some _),(20,some _)],[(0,some _)]⟩ ⟨⟨c9,c9,c9,c9,c9,c9,trivial⟩,⟨u9,trivial⟩⟩ (fun k=>⟨[(3,some (.v (.one (.ref 901 (nq l i k).length)))),(21,some (vI k))],[(901,some (.arr true 2 48 (nq l i k).length (lf Fd.c (nq l i k))))]⟩) (fun k=>k <= (al ((l.getD i default).rhs &&& ~~~(l.getD i default).lhs)).length) (fun k=>(al ((l.getD i default).rhs &&& ~~~(l.getD i default).lhs)).length - k) (0) (bkl _) ⟨⟨⟨_,rfl,(ca (a8k l i))⟩,zy,trivial⟩,⟨⟨_,rfl,(bv (a8k l i))⟩,trivial⟩⟩ ?_;rintro k hk;have hml:=ng ((l.getD i default).rhs &&& ~~~(l.getD i default).lhs);have hsl:=ar1 (l:=l) (i:=i) (k:=k) bos;refine w_5 ?_;refine hcd (fun h1=>?_) (fun h1=>?_)
  · refine oe ?_;refine rq rfl rfl rfl rfl rfl ?_ (hp:=(bmz _));refine qy ?_;refine m9 1 ?_;refine r9 2 true ?_;refine w_7 ?_;exact lpx (k + 1) ⟨⟨⟨_,rfl,(c7 (a8p rfl bos))⟩,zy,c9,c9,c9,c9,c9,c9,trivial⟩,⟨⟨_,rfl,(ow (a8p rfl bos) (CoP.refl _) (CoP.of_eq (by exact congrArg (fun z=>PV.raw (.int .u32 z)) (b3x _))))⟩,u9,trivial⟩⟩
  obtain rfl:k = (al ((l.getD i default).rhs &&& ~~~(l.getD i default).lhs)).length:=by omega
  refine w_5 ?_;exact lpx (i + 1) ⟨⟨⟨_,rfl,(ca (ab6 bos rfl).symm)⟩,zy,c9,c9,trivial⟩,⟨⟨_,rfl,(bv (ab6 bos rfl).symm)⟩,trivial⟩⟩
 obtain rfl:i = l.length:=by omega
 refine w_2 ?_;refine av 3 rfl rfl rfl ?_;refine w_2 ?_;refine gi rfl rfl rfl rfl rfl rfl ao4 (asq (kw l) (bky (a38 l) bos)) (⟨CoP.of_eq (by rw [bks];rfl),trivial⟩) trivial rfl rfl ?_;refine w_3 ?_;refine ⟨.inr rfl, ?_⟩;exact ⟨_,_,rfl,bou,CoR.refl _,⟨u9,trivial⟩⟩
theorem b9p:goodFn Tryz.prog 184:=wgx Tryz.func184
theorem bhn (l:List Fd) (hl:l.length <= 4096):a7 Tryz.prog 184 [pP (fdl l)] (ae [pP (fdl (ajh l))]):=by
 refine hpx (nt:=60) Tryz.func184 ?_;refine w_7 ?_;refine fc9 b5p (b5r l hl) trivial ?_;refine w_4 ?_;have hsl:=aop l;refine w_6 ?_;refine a6 (ι:=Nat) ⟨[(3,some _),(11,some _)],[]⟩ ⟨⟨c9,c9,trivial⟩,trivial⟩ (fun i=>⟨[(12,some (vI i))],[(900,some (.arr true 2 48 (spl l).length (lf Fd.c (ko (spl l) i))))]⟩) (fun i=>i <= (spl l).length) (fun i=>(spl l).length - i) (0) (bkl _) ⟨⟨zy,trivial⟩,⟨u9,trivial⟩⟩ ?_;rintro i hi;have htl:=p8 (l:=spl l) (i:=i);refine w_5 ?_;refine hcd (fun h0=>?_) (fun h0=>?_)
 ·
  refine ku ?_;refine qcx a2k (ad4 ((ko (spl l) i).getD i default).lhs) ?_;refine w_4 ?_;refine a6 (ι:=Nat) ⟨[(3,some _),(4,some _),(11,some _),(12,some _),(20,some _),(21,some _)],[]⟩ ⟨⟨c9,c9,c9,c9,c9,c9,trivial⟩,trivial⟩ (fun k=>⟨[(22,some (vI k))],[(900,some (.arr true 2 48 (spl l).length (lf Fd.c (qh (ko (spl l) i) i k))))]⟩) (fun k=>k <= (al ((ko (spl l) i).getD i default).lhs).length) (fun k=>(al ((ko (spl l) i).getD i default).lhs).length - k) (0) (bkl _) ⟨⟨zy,trivial⟩,⟨⟨_,rfl,(f5 (asv _ _) rfl)⟩,trivial⟩⟩ ?_;rintro k hk;have hml:=ng ((ko (spl l) i).getD i default).lhs;refine w_5 ?_;refine hcd (fun h1=>?_) (fun h1=>?_)
  ·
   have hkl:(qh (ko (spl l) i) i k).length = (spl l).length:=by rw [akk,p8]
   have hhas:=ay7 (l:=(ko (spl l) i)) (i:=i) (k:=k) (by rw [p8];omega) bos;refine xa ?_;refine rc rfl rfl rfl rfl rfl rfl b8n (bcr (qh (ko (spl l) i) i k) ((qh (ko (spl l) i) i k).getD i default) ((al ((ko (spl l) i).getD i default).lhs).getD k default)) (⟨CoC.one (apa (by rw [akk,p8])),CoC.refl _,CoC.refl _,trivial⟩) rfl rfl ?_;refine aq ?_;refine hcb (fun h2=>?_) (fun h2=>?_)
   ·
    refine w_7 ?_;refine rq rfl rfl rfl rfl rfl ?_ (hp:=(bmz _));refine ce ?_
    first | (refine ⟨k + 1, ?_, ?_, ?_⟩
             · show k + 1 <= _;omega
             · first | omega | (dsimp only;omega)
             exact ⟨⟨zy,c9,c9,c9,c9,c9,c9,trivial⟩,⟨⟨_,rfl,(anr (i:=i) (a:=(al ((ko (spl l) i).getD i default).lhs).getD k default) (l:=(qh (ko (spl l) i) i k)) (by rw [a0l bos,ax8 hhas bot]) (a7c _ _) bos bos hkl.symm)⟩,trivial⟩⟩)
          | (refine ⟨k + 1, ?_, ?_, ?_⟩
             · show k + 1 <= _;omega
             · first | omega | (dsimp only;omega)
             exact ⟨⟨zy,c9,c9,c9,c9,c9,c9,trivial⟩,⟨⟨_,rfl,(f5 (by rw [a0l bos,axm bot]) rfl)⟩,trivial⟩⟩)
   refine w_5 ?_
   first | (refine ⟨k + 1, ?_, ?_, ?_⟩
            · show k + 1 <= _;omega
            · first | omega | (dsimp only;omega)
            exact ⟨⟨zy,c9,c9,c9,c9,c9,c9,trivial⟩,⟨⟨_,rfl,(anr (i:=i) (a:=(al ((ko (spl l) i).getD i default).lhs).getD k default) (l:=(qh (ko (spl l) i) i k)) (by rw [a0l bos,ax8 hhas bot]) (a7c _ _) bos bos hkl.symm)⟩,trivial⟩⟩)
         | (refine ⟨k + 1, ?_, ?_, ?_⟩
            · show k + 1 <= _;omega
            · first | omega | (dsimp only;omega)
            exact ⟨⟨zy,c9,c9,c9,c9,c9,c9,trivial⟩,⟨⟨_,rfl,(f5 (by rw [a0l bos,axm bot]) rfl)⟩,trivial⟩⟩)
  obtain rfl:k = (al ((ko (spl l) i).getD i default).lhs).length:=by omega
  refine w_5 ?_;exact lpx (i + 1) ⟨⟨zy,c9,c9,trivial⟩,⟨⟨_,rfl,(f5 (by rw [ax3,b2c rfl]) rfl)⟩,trivial⟩⟩
 obtain rfl:i = (spl l).length:=by omega
 refine w_2 ?_;refine av 3 rfl rfl rfl ?_;refine w_2 ?_;refine rc rfl rfl rfl rfl rfl rfl ao4 (bep (ko (spl l) (spl l).length) (by rw [p8];omega)) (⟨CoC.one (apa (by rw [p8])),trivial⟩) rfl rfl ?_;refine w_4 ?_;have hrl:=ab2 l;refine w_4 ?_;refine a6 (ι:=List Fd × Nat) ⟨[],[]⟩ ⟨trivial,trivial⟩ (fun x=>⟨[(3,some (bn (fdl x.1))),(7,some (vI x.2))],[]⟩) (fun x=>ug (x.1.length - x.2) x.1 x.2 = ajh l /\ x.2 <= x.1.length /\ x.1.length <= 131072) (fun x=>x.1.length - x.2) ((a29 l,0)) (⟨rfl,bkl _,by show (a29 l).length <= _;omega⟩) ⟨⟨zy,⟨_,rfl,(coi rfl)⟩,trivial⟩,trivial⟩ ?_;rintro x ⟨hx,hx2,hx3⟩;refine w_8 ?_;refine hcd (fun h3=>?_) (fun h3=>?_)
 ·
  refine w_6 ?_;refine qcx b9f (bd6 x.1 x.2 bos bos) ?_;refine aq ?_;refine a8 _ rfl (fun r4=>?_) (fun r4=>?_)
  ·
   have h4:=r4;have hq:=r4;refine w_3 ?_;refine qcx anw (aom x.1 x.2 bos bos) ?_;refine w_2 ?_
   first | (refine ⟨(ll x.1 x.2, x.2), ?_, ?_, ?_⟩
            · have ho:=lz (l:=x.1) (i:=x.2) bos
              exact ⟨by rw [<- hx,anm bos hq],by dsimp only;omega,by dsimp only;omega⟩
            · have ho:=lz (l:=x.1) (i:=x.2) bos
              dsimp only;omega
            exact ⟨⟨zy,⟨_,rfl,(coi bov)⟩,trivial⟩,trivial⟩)
         | (refine ⟨(x.1,x.2 + 1), ?_, ?_, ?_⟩
            · exact ⟨by rw [<- hx,apx bos hq],by dsimp only;omega,by dsimp only;omega⟩
            · first | omega | (dsimp only;omega)
            exact ⟨⟨zy,⟨_,rfl,(coi bov)⟩,trivial⟩,trivial⟩)
  have h4:=r4;have hq:=r4;refine w_5 ?_
  first | (refine ⟨(ll x.1 x.2, x.2), ?_, ?_, ?_⟩
           · have ho:=lz (l:=x.1) (i:=x.2) bos
             exact ⟨by rw [<- hx,anm bos hq],by dsimp only;omega,by dsimp only;omega⟩
           · have ho:=lz (l:=x.1) (i:=x.2) bos
             dsimp only;omega
           exact ⟨⟨zy,⟨_,rfl,(coi bov)⟩,trivial⟩,trivial⟩)
        | (refine ⟨(x.1,x.2 + 1), ?_, ?_, ?_⟩
           · exact ⟨by rw [<- hx,apx bos hq],by dsimp only;omega,by dsimp only;omega⟩
           · first | omega | (dsimp only;omega)
           exact ⟨⟨zy,⟨_,rfl,(coi bov)⟩,trivial⟩,trivial⟩)
 have hq:=h3;refine w_6 ?_;exact hx8 rfl rfl rfl (⟨CoC.one (CoP.of_eq (by rw [<- hx,axv bos])),trivial⟩)
end
section
def a18 (n:Int) (l:List Fd):List Fd:=if bj n l = 0 then ajh l else []
theorem ban {n:Int} {l:List Fd} (h:bj n l = 0):a18 n l = ajh l:=if_pos h
theorem bd4 {n:Int} {l:List Fd} (h:¬ bj n l = 0):a18 n l = []:=if_neg h
theorem bio {s:Nat} {cl:Bool} {f:Nat -> Nat -> PV} {L:List Fd} (h:L = []):CoP (.sl 0 s cl f) (fdl L):=by subst h;exact axg
theorem a3q {s:Nat} {cl:Bool} {f:Nat -> Nat -> PV} {L:List AS} (h:L = []):CoP (.sl 0 s cl f) (asl L):=by subst h;exact axg
def bkg (l:List Fd) (i k:Nat):List Fd:=(List.range k).foldl (tt i) l
end
section
open Go.Proofs
theorem b8h:goodFn Tryz.prog 134:=wgx Tryz.func134
theorem bfm (n:Int) (l:List Fd):a7 Tryz.prog 134 [pI n,pP (fdl l)] (ae [pP (fdl (a18 n l)),pI (bj n l)]):=by
 refine hpx (nt:=15) Tryz.func134 ?_;refine ce ?_;refine qcx uz (zr n l) ?_;refine w_7 ?_;refine hcn (fun h0=>?_) (fun h0=>?_)
 · refine w_6 ?_;exact hx8 rfl rfl rfl (⟨CoC.one (bio (bd4 bot)),CoC.refl _,trivial⟩)
 refine w_4 ?_;refine qcx b9p (bhn l (by have:=(gc bot).2.2.1;omega)) ?_;refine w_3 ?_;exact hx8 rfl rfl rfl (⟨CoC.one (CoP.of_eq (by rw [ban bot])),cci bos,trivial⟩)
end
end Go.Hx
