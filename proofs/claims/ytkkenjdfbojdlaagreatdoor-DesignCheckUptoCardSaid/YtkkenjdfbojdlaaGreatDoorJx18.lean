/- A part of the proof: SrW Cs10 V8 Cs11 Gr V9 Cs12 V10 Cs13 V11 Cs14 V12. -/
import Derived.Shelf.SlSortCmp.NoneTotal
import Derived.Test.YtkkenjdfbojdlaaGreatDoorJx16
import Derived.Test.YtkkenjdfbojdlaaGreatDoorJx17
set_option linter.all false
set_option maxRecDepth 100000
set_option maxHeartbeats 1000000
namespace Go.Hx
section
open Go.Proofs Go.RowKit Go.Sort
section
variable {w:World}
def ar9 {w':World} (h:Below w.heap.size w w'):∃ q os,w' = grow (w.drewN q) os:=by
 refine ⟨w'.drawn - w.drawn,w'.heap.extract w.heap.size w'.heap.size, ?_⟩;have hd:=h.drawn;obtain ⟨h1,h2,h3,h4,h5,_⟩:=h
 cases w with
 | mk hp tp dr os out =>
 cases w' with
 | mk hp' tp' dr' os' out' =>
 dsimp only at *;subst h1 h2 h3;unfold grow World.drewN;simp only [World.mk.injEq,true_and,and_true];refine ⟨?_,by omega⟩;apply Array.ext_getElem?;intro k;rw [Array.getElem?_append];by_cases hk:k < hp.size
 · rw [if_pos hk,h5 k hk]
 rw [if_neg hk,Array.getElem?_extract];by_cases hk2:k < hp'.size
 · rw [if_pos bnl]
   congr 1;omega
 rw [if_neg bnl,blr bnl]
variable {os:Array Obj} {α:Type} {d:Array α} {enc:α -> Value}
def aro [Inhabited α] {g m:Nat} {cur:Array Value} {e:TypeId} {fr:Nat × Nat} (h:w.heap[g]? = some (.cells cur e fr)):
 (sortWorld enc w g 0 m d os).heap[g]? = some (.cells (putCells enc 0 d cur) e fr):=by
 have hlt:=(bjf.1 h).1;unfold sortWorld;rw [heap_grow_old _ _ (by simpa using hlt)];unfold putRow mapBlock;simp only [heap_ahead,bm3,if_true,h];rfl
def a2z [Inhabited α] {g m:Nat} {b:Nat} (hb:b < w.heap.size) (hne:b ≠ g):(sortWorld enc w g 0 m d os).heap[b]? = w.heap[b]?:=by
 unfold sortWorld;rw [heap_grow_old _ _ (by simpa using hb)];unfold putRow mapBlock;simp only [heap_ahead,bm3,if_neg (Ne.symm hne)]
def asq [Inhabited α] {g m:Nat}:Below 0 w (sortWorld enc w g 0 m d os) :=
 ⟨rfl,rfl,rfl,by unfold sortWorld;simp,fun k hk=>absurd hk (bjh k),by unfold sortWorld grow;simp⟩
def az3 [Inhabited α] {cur:Array Value} (h:d.size <= cur.size):(putCells enc 0 d cur).toList.take d.size = d.toList.map enc:=by
 apply bm2;intro k;rw [bkb,bjz,bm4,bm4];by_cases hk:k < d.size
 · rw [if_pos hk]
   unfold putCells;rw [Array.getElem?_mapIdx,bk9 bnl,bk9 hk];simp only [bk1,bk6,bn0];rw [if_pos ⟨bji _,hk⟩,getElem!_pos d k hk]
 rw [if_neg hk,blr bnl];rfl
def atc {P:Program} {ρ:Go.Shelf.Ren} [Inhabited α] (L:SlLaysF.n6 P ρ) (enc:α -> Value) (h1:∀ x,(enc x).oneCell' = true) (cf:α -> α -> Int) (hO:SWO (ltOf cf)) (hT:∀ x y,(ltOf cf) x y = false -> (ltOf cf) y x = false -> x = y) (g:Nat) (caps:Nat -> PV) (hg:∀ args w,(callFunc g args).run P w = .ok (.enter g args) w) (hc:∀ x y,a6 P g [.one (.raw (enc x)), .one (.raw (enc y))] (a7 [.one (.raw (.int .i64 (cf x y)))])) (id:Nat) (e:TypeId) (l:List α) (hsz:l.length <= 8589934592):
 d4 P (ρ.f 6) [.one (.ref id l.length), .one (.p (.fn g 0 caps))] [(id, .arr true 1 e l.length (lf (fun x _=>.raw (enc x)) l))] (.tup [])
  [(id, .arr true 1 e l.length (lf (fun x _=>.raw (enc x)) (l.mergeSort fun x y=>!(ltOf cf) y x)))] [id]:=by
 intro w c us hM hus
 match us,hus with
 | [u,v],⟨hu,hv,_⟩ =>
  obtain ⟨cs,rfl,hcl,_⟩:=hv;have hcs:cs = []:=bkx hcl;subst hcs;have hl1:lk [(id,aa.arr true 1 e l.length (lf (fun x _=>.raw (enc x)) l))] id = some (.arr true 1 e l.length (lf (fun x _=>.raw (enc x)) l)):=by simp [lk]
  have hu2:=(hu.2.2 _ _ _ _ hl1 rfl).2 rfl;subst hu2;have hob:=hM.objs id _ hl1;obtain ⟨h0,hmax,h5⟩:=hob;have hlen:(l.mergeSort fun x y=>!(ltOf cf) y x).length = l.length:=bni _
  have hev:∀ f':Nat -> Nat -> PV,Evo c (lk [(id,aa.arr true 1 e l.length (lf (fun x _=>.raw (enc x)) l))]) c (lk [(id,aa.arr true 1 e l.length f')]) id:=fun f' =>
   .inr (.inr ⟨_, .arr true 1 e l.length f',1,e,l.length,l.length,hl1,rfl,by simp [lk],rfl,bjg _,fun _=>rfl,fun _ _ _ _ _ _ _ h=>by cases h⟩)
  rcases bl7 l.length with hz | hpos
  ·
   have hl:l = []:=bkx hz;subst hl
   have hform:∃ ad cap,c.own id = .slice ad 0 cap:=by
    rcases h5 with ⟨_,xs,h2,_⟩ | ⟨_,_,ad,cap,hv,_⟩
    · rcases h2.2 with ⟨hv,_⟩ | ⟨g,cap,cur,hv,_⟩
      · exact ⟨none,0,hv⟩
      exact ⟨_,cap,hv⟩
    exact ⟨ad,cap,hv⟩
   obtain ⟨ad,cap,hown⟩:=hform;have hms:([]:List α).mergeSort (fun x y=>!(ltOf cf) y x) = []:=by simp
   rw [hown,hms];refine (AnyF.slices_SortFunc_none { L with } ad cap (.func (.func g) #[] #[]) w).mono ?_;rintro e' w' ⟨rfl,rfl⟩
   exact ⟨_,c,rfl,⟨[],rfl,trivial⟩,hM,Below.refl _ _,fun _ _ _=>⟨rfl,rfl⟩,fun id0 ob b ho hb=>.inr ⟨id0,ob,ho,hb⟩,fun id0 hid=>by
    rw [bjy.1 hid]
    exact Evo.refl _ _ _⟩
  obtain ⟨h6,xs,h2,h4⟩:c.blk id = iu (c.own id) /\ ∃ xs,w.ownsRow 0 e 1 (c.own id) l.length xs /\ ∀ i j,i < l.length -> j < 1 -> ∃ x,xs[i * 1 + j]? = some x /\ az c.imm (lf (fun x _=>.raw (enc x)) l i j) x:=by
   rcases h5 with h5 | ⟨h6 | h6,_⟩
   · exact h5
   · cases h6
   omega
  obtain ⟨hxl,hrow⟩:=h2
  rcases hrow with ⟨_,hz⟩ | ⟨b,cap,cur,hown,hbase,hheap,hnc,hcm,hcs,htake⟩
  · omega
  have hblk:c.blk id b:=by rw [h6,hown];rfl
  have hlt:b < w.heap.size:=(bjf.1 hheap).1
  have hcell:∀ j,(hj:j < l.length) -> cur[j]? = some (enc l[j]):=fun j hj=>by
   obtain ⟨x,hx,hr⟩:=h4 j 0 hj bnl;rw [bne,blw,<- htake,bkb,if_pos bnl,bm4] at hx;rw [hx];have hr:x = enc (l.getD j default) /\ _:=hr;rw [hr.1,bjd,bjc hj];rfl
  have hH:Holds enc w b 0 l.toArray:=fun j hj=>by
   have hj:j < l.length:=by simpa using hj
   rw [bk6];refine ⟨?_,by simp [World.frozen?,hheap]⟩;have:l.toArray[j]! = l[j]:=by rw [getElem!_pos l.toArray j (by simpa using hj)];simp
   rw [this];simp [World.cell?,hheap,hcell j hj]
  have hcmp:CmpLays1 P g #[] enc cf b 0 l.toArray.size w:=by
   intro m os dk hdk x y
   have hcimm:∀ b' ob,c.imm b' = some ob -> (sortWorld enc w b 0 m dk os).heap[b']? = some ob:=fun b' ob hb'=>by
    have hne:b' ≠ b:=fun he=>by
     have:=hM.sep id _ b hl1 hblk;rw [<- he,hb'] at this;cases this
    have hw:=hM.imm b' ob hb';rw [a2z (bjf.1 hw).1 hne];exact hw
   have h:=hc x y (sortWorld enc w b 0 m dk os) c.imm [enc x,enc y] c.tab hcimm ⟨⟨rfl,h1 x⟩,⟨rfl,h1 y⟩,trivial⟩;refine h.mono ?_;rintro e' w' ⟨v,imm',rfl,hr,_,_,hb⟩;obtain ⟨q,os',hq⟩:=ar9 hb;exact ⟨by rw [hr.1],q,os',hq⟩
  have hS:=Any.slices_SortFunc_total L enc h1 cf hO g #[] b 0 cap l.toArray w hg hcmp hH hlt (by rw [bkm];omega) hT;rw [hown];refine Calls.mono hS ?_;rintro e' w' ⟨rfl,m,os,rfl⟩;generalize hSd:(l.mergeSort fun x y=>!(ltOf cf) y x) = S at *
  refine ⟨_,c,rfl,⟨[],rfl,trivial⟩,⟨fun id0 ob ho=>?_,fun id0 id1 ob0 ob1 b' ho0 ho1 _ _=>(io ho0).1.trans (io ho1).1.symm,fun b' ob hb'=>?_,fun id0 ob b' ho hb'=>?_⟩,asq,
   fun b' hb' hno=>⟨a2z hb' (fun he=>hno id _ hl1 (by rw [he];exact hblk)),rfl⟩,fun id0 ob b' ho hb'=>.inr ⟨id,_,hl1,by rw [<- (io ho).1];exact hb'⟩,fun id0 hid=>by
    rw [bjy.1 hid]
    exact hev _⟩
  · obtain ⟨rfl,rfl⟩:=io ho
    refine ⟨h0,hmax, .inl ⟨h6,S.map enc,⟨by simp [hlen], .inr ⟨b,cap,putCells enc 0 S.toArray cur,hown,hbase,aro hheap,hnc,hcm,by simpa [putCells] using hcs, ?_⟩⟩,fun i j hi hj=>?_⟩⟩
    · have:=az3 (enc:=enc) (d:=S.toArray) (cur:=cur) (by rw [bkm,hlen,hcs];omega)
      rw [bkm,hlen] at this;rw [bne];exact this
    obtain rfl:j = 0:=by omega
    have hi':i < S.length:=by rw [hlen];exact hi
    refine ⟨enc S[i], ?_, ?_⟩
    · rw [bne,blw,bjz,bjc hi']
      rfl
    show az c.imm (.raw (enc (S.getD i default))) _;rw [bjd,bjc hi'];exact ⟨rfl,h1 _⟩
  · have hne:b' ≠ b:=fun he=>by
     have:=hM.sep id _ b hl1 hblk;rw [<- he,hb'] at this;cases this
    have hw:=hM.imm b' ob hb';rw [a2z (bjf.1 hw).1 hne];exact hw
  have:=(io ho).1;subst this;exact hM.sep id0 _ b' hl1 hb'
 | [],h=>exact h.elim
 | [_],⟨_,h⟩=>exact h.elim
 | _ :: _ :: _ :: _,⟨_,_,h⟩=>exact h.elim
def a1q {a b:AS}:ltOf a2r a b = bef a b:=azh
def ayy:SWO (ltOf a2r) where
 irrefl x:=by rw [a1q];exact a1r x
 trans x y z h k:=by rw [a1q] at *;exact su h k
 ntrans x y z h k:=by
  rw [a1q] at *;rw [bjp,ne_eq,mr] at *;omega
def srt (l:List AS):List AS:=l.mergeSort fun x y=>!bef y x
def aoz:goodFn bo6 214:=⟨Tryz.f214,Tryz.func214,by kernel_rfl,by kernel_rfl⟩
def bnz {p:Prop} (h:p:=by kernel_rfl):p:=h
def b2f (id:Nat) (caps:Nat -> PV) (l:List AS) (hsz:l.length <= 8589934592):d4 bo6 214 [.one (.ref id l.length), .one (.p (.fn 215 0 caps))] [(id, .arr true 1 46 l.length (lf sC l))] (.tup [])
 [(id, .arr true 1 46 l.length (lf sC (srt l)))] [id]:=by
 have h:=atc Tryz.laysSort (fun s:AS=>.int .u32 (asI s)) (fun _=>rfl) a2r ayy (fun x y h k=>by
  rw [a1q] at h k;apply Classical.byContradiction;intro hne
  rcases a7o hne with h2 | h2
  · rw [h] at h2;cases h2
  rw [k] at h2;cases h2) 215 caps (enters_of Tryz.func215 bnz rfl) (fun x y=>azp x y) id 46 l hsz
 have e:(fun x y:AS=>!(ltOf a2r) y x) = fun x y=>!bef y x:=by
  funext x y;rw [a1q]
 rw [e] at h;exact h
def b3r {l:List AS} {x:AS}:x ∈ srt l <-> x ∈ l:=by unfold srt;exact List.mem_mergeSort
def a7r (l:List AS):(srt l).length = l.length:=bni _
def a6d:∀ {l:List AS} {p:Option AS},l.Pairwise (fun a b=>bef b a = false) -> (∀ x,p = some x -> ∀ y ∈ l,bef y x = false) -> (k7 p l).Pairwise (fun a b=>bef a b = true) /\ ∀ x,p = some x -> ∀ y ∈ k7 p l,bef x y = true
 | [],p,_,_=>⟨by simp [k7],fun x _ y hy=>by simp [k7] at hy⟩
 | z :: l,p,h,hp=>by
  obtain ⟨h1,h2⟩:=bkh.1 h;simp only [k7];split
  · rename_i e
    subst e;exact a6d h2 fun x hx y hy=>hp x hx y (bkp _ hy)
  rename_i hne
  obtain ⟨q1,q2⟩:=a6d (p:=some z) h2 fun x hx y hy=>by
   simp only [bjb] at hx;subst hx;exact h1 y hy
  refine ⟨bkh.2 ⟨fun y hy=>q2 z rfl y hy,q1⟩,fun x hx y hy=>?_⟩
  have hxz:bef x z = true:=by
   have h3:=hp x hx z bkl
   rcases a7o (a:=x) (b:=z) (fun e=>hne (by rw [hx,e])) with h4 | h4
   · exact h4
   rw [h3] at h4;cases h4
  rcases bjq.1 hy with rfl | hy
  · exact hxz
  exact su hxz (q2 z rfl y hy)
def a3g (l:List AS):ir (srt l) = ord l:=by
 refine awl (a6d ?_ fun x hx=>by cases hx).1 fun z=>by rw [al3,b3r]
 have h:=List.pairwise_mergeSort (le:=fun x y:AS=>!bef y x) (fun a b c h k=>by
  simp only [bkc] at *;rw [bjp,ne_eq,mr] at *
  omega) (fun a b=>by
  simp only [bl3,bkc];rw [bjp,bjp,ne_eq,ne_eq,mr,mr]
  omega) l
 refine h.imp fun {a b} hab=>?_;simpa using hab
end
end
section
abbrev vB (b:Bool):HR:=bi (.raw (.bool b))
abbrev bx (a:PV):PV:=.vp 1 fun j=>[a].getD j .any
def wn (W:AS -> AS -> Bool) (l:List AS) (x:AS):Bool:=l.any fun b=>decide (x ≠ b) && W x b
def a4a (W:AS -> AS -> Bool) (l:List AS):List AS:=(ord l).filter fun x=>!wn W (ord l) x
def vd (a b:AS):Bool:=decide (sub a b)
def ic (l:List AS):List AS:=a4a vd l
def a4z (l:List AS):(ord l).Nodup:=(j5 l).imp fun {a b} h e=>by
 subst e;rw [a1r] at h;cases h
def okT (l:List AS) (i k:Nat):Bool:=(List.range k).all fun j=>decide (j = i) || !vd (l.getD i default) (l.getD j default)
def bi7 (l:List AS) (i:Nat):List AS:=((ord l).take i).filter fun x=>!wn vd (ord l) x
end
section
open Go.Proofs
def y4:goodFn bo6 169:=wgx Tryz.func169
def a5z (l:List AS) (hl:l.length <= 8589934592):a6 bo6 169 [pP (asl l)] (a7 [pP (asl (ord l))]):=by
 refine hpx (nt:=10) Tryz.func169 ?_;refine w_7 ?_;refine fc9 a54 (a26 l.length false (lf sC l) bnl) trivial ?_;refine w_5 ?_;refine fc9 aoz (b2f 0 _ l hl) uu ?_;refine w_4 ?_;refine gh rfl rfl rfl rfl rfl rfl (wgx Tryz.func216) ((aza (srt l)).swap 900 0) (⟨congrArg (HV.ref 0) (a7r l).symm,trivial⟩) ⟨⟨_,rfl,ew rfl (a7r l).symm⟩,trivial⟩ rfl rfl ?_;refine v_2 ?_;exact ⟨CoC.one (CoP.of_eq (by rw [a3g])),trivial⟩
def b6x (b x:AS) (g k:Nat) (caps:Nat -> PV) (W:AS -> AS -> Bool) (hg:goodFn bo6 g) (hW:∀ x y,a6 bo6 g (pA x :: pA y :: gq caps k 0) (a7 [pB (W x y)])):a6 bo6 186 [pA b,pP (bx (asC x)),pP (bx (.fn g k caps))] (a7 [pB (decide (x ≠ b) && W x b)]):=by
 refine hpx (nt:=14) Tryz.func186 ?_;refine c7 ?_;refine ah rfl rfl (fun r0=>?_) (fun r0=>?_)
 ·
  have h0:=tz2 (cj r0);(iterate 3 refine qy ?_ (hg:=(gtt r0)));refine rc rfl rfl rfl rfl rfl rfl hg (hW x b) (CoL.refl _) rfl (gtt r0) ?_;refine w_3 ?_
  exact hx8 rfl rfl rfl (⟨ccb (by simp_all [c8]),trivial⟩)
 have h0:=tz1 (ck r0);(iterate 4 refine k9 (gft r0) ?_);refine rq rfl rfl rfl rfl rfl ?_ (hp:=r0);refine w_2 ?_
 exact hx8 rfl rfl rfl (⟨ccb (by simp_all [c8]),trivial⟩)
def b93 (x:AS) (l:List AS) (g k:Nat) (caps:Nat -> PV) (W:AS -> AS -> Bool) (hg:goodFn bo6 g) (hW:∀ x y,a6 bo6 g (pA x :: pA y :: gq caps k 0) (a7 [pB (W x y)])):a6 bo6 185 [pA x,pP (bx (asl l)),pP (bx (.fn g k caps))] (a7 [pB (wn W l x)]):=by
 refine hpx (nt:=8) Tryz.func185 ?_;refine sx7 ?_;refine m9 0 ?_;refine w_3 ?_;refine cw 3 rfl rfl rfl ?_;refine w_3 ?_;refine qcx ae7 (asr l 186 2 (fun i=>[bx (asC x),bx (.fn g k caps)].getD i .any) (fun b=>decide (x ≠ b) && W x b) (wgx Tryz.func186) (fun b=>b6x b x g k caps W hg hW)) ?_;refine v_2 ?_;exact CoL.refl _
def b2d (l:List AS) (hl:l.length <= 8589934592) (g k:Nat) (caps:Nat -> PV) (W:AS -> AS -> Bool) (hg:goodFn bo6 g) (hW:∀ x y,a6 bo6 g (pA x :: pA y :: gq caps k 0) (a7 [pB (W x y)])):a6 bo6 137 [pP (asl l),pP (.fn g k caps)] (a7 [pP (asl (a4a W l))]):=by
 refine hpx (nt:=12) Tryz.func137 ?_;refine sx7 ?_;refine m9 2 ?_;refine w_5 ?_;refine qcx y4 (a5z l hl) ?_;refine m9 3 ?_;refine w_3 ?_;refine cw 5 rfl rfl rfl ?_;refine cw 3 rfl rfl rfl ?_;refine w_2 ?_;refine fc9 a54 (a26 (ord l).length false (lf sC (ord l)) (bjr (lj l) bnl)) trivial ?_;refine qy ?_;refine fc9 adb ((as1 (ord l) 185 2 (fun i=>[bx (asl (ord l)),bx (.fn g k caps)].getD i .any) (wn W (ord l)) (wgx Tryz.func185) (fun x=>b93 x (ord l) g k caps W hg hW)).swap 900 0) uu ?_;refine v_2 ?_;exact CoL.refl _
def bfd (a b:AS):a6 bo6 138 [pA a,pA b] (a7 [pB (vd a b)]):=by
 refine hpx (nt:=9) Tryz.func138 ?_;refine fj ?_;exact hx8 rfl rfl rfl (⟨ccb (decide_eq_decide.2 j6),trivial⟩)
def amd:goodFn bo6 75:=wgx Tryz.func75
def aa9 (l:List AS) (hl:l.length <= 8589934592):a6 bo6 75 [pP (asl l)] (a7 [pP (asl (ic l))]):=by
 refine hpx (nt:=5) Tryz.func75 ?_;refine w_7 ?_;refine qcx (wgx Tryz.func137) (b2d l hl 138 0 _ vd (wgx Tryz.func138) (fun a b=>bfd a b)) ?_;refine v_2 ?_;exact CoL.refl _
end
section
def gu (l:List Fd):List Fd:=l.foldl (fun o x=>if x ∈ o then o else o ++ [x]) []
section
variable {i:Nat} {l:List Fd}
def aaw (hi:i < l.length):gu (l.take (i + 1)) = if l.getD i default ∈ gu (l.take i) then gu (l.take i) else gu (l.take i) ++ [l.getD i default]:=by
 unfold gu;rw [au hi,bki];rfl
def akj {s:Fd}:(l.any fun x=>decide (x = s)) = decide (s ∈ l):=by
 rw [blh,bke,decide_eq_true_iff];constructor
 · rintro ⟨x,hx,h⟩
   exact of_decide_eq_true h ▸ hx
 intro h;exact ⟨s,h,decide_eq_true rfl⟩
def a71 (hi:i < l.length) (h:((gu (l.take i)).any fun x=>decide (x = l.getD i default)) = false):gu (l.take (i + 1)) = gu (l.take i) ++ [l.getD i default]:=by
 rw [akj] at h;rw [aaw hi,if_neg (of_decide_eq_false h)]
def a8b (hi:i < l.length) (h:((gu (l.take i)).any fun x=>decide (x = l.getD i default)) = true):gu (l.take (i + 1)) = gu (l.take i):=by
 rw [akj] at h;rw [aaw hi,if_pos (of_decide_eq_true h)]
def ag2:∀ (l o:List Fd),(l.foldl (fun o x=>if x ∈ o then o else o ++ [x]) o).length <= o.length + l.length /\ ∀ z,z ∈ l.foldl (fun o x=>if x ∈ o then o else o ++ [x]) o <-> z ∈ o \/ z ∈ l
 | [],o=>⟨by simp,fun z=>by simp⟩
 | x :: l,o=>by
  obtain ⟨h1,h2⟩:=ag2 l (if x ∈ o then o else o ++ [x]);simp only [blb];refine ⟨?_,fun z=>?_⟩
  · refine bjr h1 ?_
    split <;> simp <;> omega
  rw [h2 z,bjq];split
  · rename_i hx
    constructor
    · rintro (h | h) <;> simp [h]
    rintro (h | rfl | h)
    · exact .inl h
    · exact .inl hx
    exact .inr h
  rw [bjw,bjy];constructor
  · rintro ((h | h) | h) <;> simp [h]
  rintro (h | h | h) <;> simp [h]
def a60 (l:List Fd):(gu l).length <= l.length:=by
 have:=(ag2 l []).1;simpa [gu] using this
def bih (l:List Fd) (i k:Nat):Bool:=(l.take k).any fun x=>decide (x = l.getD i default)
def a1l (f:Fd):List Fd:=(aj (f.rhs &&& ~~~f.lhs)).map fun a=>(⟨f.lhs,(1:AS) <<< a⟩:Fd)
def kp (l:List Fd):List Fd:=(l.map a1l).flatten
def nk (l:List Fd) (i k:Nat):List Fd:=kp (l.take i) ++ (a1l (l.getD i default)).take k
def a33 (f:Fd):(a1l f).length = (aj (f.rhs &&& ~~~f.lhs)).length:=by unfold a1l;rw [bk0]
def n8 (s:AS):(aj s).length <= 32:=by rw [<- ss];exact ai1 s
def a8w (l:List Fd) (i:Nat):nk l i 0 = kp (l.take i):=by unfold nk;rw [List.take_zero,bkd]
def a8n {k:Nat} {m:List Nat} (hm:m = aj ((l.getD i default).rhs &&& ~~~(l.getD i default).lhs)) (hk:k < m.length):nk l i (k + 1) = nk l i k ++ [⟨(l.getD i default).lhs,(1:AS) <<< m.getD k default⟩]:=by
 subst hm;unfold nk;generalize l.getD i default = x at *;rw [List.take_add_one,bkn];congr 1;congr 1;unfold a1l;rw [bjz,bjc hk,bjd,bjc hk];rfl
def aco (hi:i < l.length) {k:Nat} (hk:k = (aj ((l.getD i default).rhs &&& ~~~(l.getD i default).lhs)).length):nk l i k = kp (l.take (i + 1)):=by
 subst hk;unfold nk kp;rw [<- a33,bjk,au hi,bln,List.flatten_append];simp
def a4c (l:List Fd):(kp l).length <= 32 * l.length:=by
 induction l with
 | nil=>simp [kp]
 | cons x l ih =>
  have h:kp (x :: l) = a1l x ++ kp l:=by simp [kp]
  have h2:=a33 x;have h3:=n8 (x.rhs &&& ~~~x.lhs);rw [h,bjj,bk5];omega
def at0 {k:Nat} (hi:i <= l.length):(nk l i k).length <= 32 * l.length + 32:=by
 have h1:=a4c (l.take i);have h2:=n8 ((l.getD i default).rhs &&& ~~~(l.getD i default).lhs);rw [bjn] at h1;unfold nk;rw [bjj,bjn,a33];omega
def exB (l:List Fd) (x:Fd) (a:Nat):Bool:=imp l ⟨x.lhs &&& ~~~((1:AS) <<< a),x.rhs⟩
def a6w (s:AS) (a:Nat):al .andNot .u32 (asI s) (IntKind.wrap .u32 (1 * 2 ^ (min a 32))) = asI (s &&& ~~~((1:AS) <<< a)):=by
 rw [show IntKind.wrap .u32 (1 * 2 ^ (min a 32)) = asI ((1:AS) <<< a) from amr 1 a,gk]
def b75 (a:Nat):IntKind.wrap .u32 (1 * 2 ^ (min a 32)) = asI ((1:AS) <<< a):=amr 1 a
def li (l:List Fd) (i:Nat):List Fd:=l.take i ++ l.drop (i + 1)
def ae3 (l:List Fd) (i:Nat):Bool:=imp (li l i) (l.getD i default)
def mf (hi:i < l.length):(li l i).length = l.length - 1:=by unfold li;rw [bjj,bjn,bkz];omega
end
end
section
open Go.Proofs Go.Lib Go.RowKit
set_option maxHeartbeats 4000000 in
set_option maxRecDepth 100000 in
def am3 (k:Nat) (hk:0 < k) (hbig:k * 8 <= 140737488355328) (w:World) (ad:Option Addr) :
 Calls bo6 278 #[.slice ad 0 0, .int .i64 k] w fun e w'=>∃ G ROW,e = .returned (.slice (some ⟨w.heap.size,0,none⟩) 0 G) /\ G <= maxLen /\ w' = w.drew.alloc (.cells ROW 48) /\ ROW.size = G * 2:=by
 obtain ⟨i0,z,hi0,hz0,hzs,hzb,hzc⟩:∃ i0 z,bo6.info? 48 = some i0 /\ i0.zero = some z /\ i0.size = 2 /\ i0.bytes = 8 /\ z.cells.size = 2:=by
  have h:(bo6.info? 48).map (fun i=>(i.zero.map (fun z=>z.cells.size),i.size,i.bytes)) = some (some 2,2,8):=by kernel_rfl
  cases hq:bo6.info? 48 with
  | none=>rw [hq] at h;cases h
  | some i0 =>
   rw [hq] at h
   cases hz:i0.zero with
   | none=>simp [hz] at h
   | some z=>simp [hz] at h;exact ⟨i0,z,rfl,hz,h.2.1,h.2.2,h.1⟩
 have hc:0 + k <= maxLen:=by unfold maxLen;omega
 have hold:(Builtin.firstCells i0.size 0 (.slice ad 0 0)).run bo6 w.drew = .ok (([]:List Value)).toArray w.drew:=by
  cases ad with
  | none=>exact run_firstCells_none w.drew _ _ _ _
  | some a=>exact run_firstCells_some w.drew _ 0 a 0 0 [] bnp (fun j v hj=>by simp at hj)
 obtain ⟨G,hG⟩:∃ G,G = grownCap w (0 + k) 0 48:=⟨_,rfl⟩;have hGn:0 + k <= G:=by rw [hG];exact grownCap_ge w _ _ _
 have hGm:G <= maxLen:=by rw [hG];exact grownCap_le_maxLen w (0 + k) 0 48 hc
 obtain ⟨ROW,hROW⟩:∃ ROW:Array Value,ROW = ([]:List Value).toArray ++ Builtin.zeroCells z.cells k ++ Builtin.zeroCells z.cells (G - (0 + k)):=⟨_,rfl⟩
 have hrz:(Builtin.append_ #[26,3] 26 #[.slice ad 0 0, .int .i64 (k:Int)]).run bo6 w = .ok (.slice (some ⟨w.heap.size,0,none⟩) k G) (w.drew.alloc (.cells ROW 48)):=by
  have h:=Lib.run_append_grow_zeros w 26 3 26 48 i0 z .i64 .i64 Tryz.underlying26 Tryz.underlying3 hi0 hz0 ad 0 0 [] hold k hk bnl bnl (by unfold maxLen at hc;omega) (by rw [hzb];omega) (by rw [hzb,bk6];exact growslice_fits bnl hbig);rw [<- hG,<- hROW] at h;rw [h];simp
 have hRs:ROW.size = G * 2:=by
  rw [hROW];simp only [bm7,bkm,bli,size_zeroCells,hzc];omega
 have mixed:=wk;have hcM:G <= 9223372036854775807:=by unfold maxLen at hGm;omega
 have hk0:¬ ((k:Int) < 0):=by omega
 have hk1:(0:Int) < (k:Int):=by omega
 have hw1:IntKind.i64.wrap (k:Int) = (k:Int):=by rw [IntKind.wrap_i64];omega
 clear hG hROW hold
 rcases ad with _ | ⟨ab,ao,asp⟩
 all_goals go_enter Tryz.func278,Tryz.ntmps278
 all_goals go_wp2_with (at_builtin;refine Lib.wpList_append_run _ rfl _ _ _ _ rfl _ _ rfl rfl _ _ hrz ?_)
 all_goals go_ret
 all_goals first | exact ⟨G,ROW,rfl,hGm,rfl,hRs⟩ | exact ⟨G,rfl,hGm,ROW,rfl,hRs⟩
def aj0 (w:World) (ad:Option Addr):Calls bo6 278 #[.slice ad 0 0, .int .i64 0] w fun e w'=>e = .returned (.slice ad 0 0) /\ w' = w:=by
 have mixed:=wk
 go_enter Tryz.func278,Tryz.ntmps278
 go_wp2
 go_ret
 exact ⟨rfl,rfl⟩
def bes (k a:Nat) (hk:k <= 68719476736) (F:Nat -> Nat -> PV) :
 d4 bo6 278 [.one (.p (kr (.slice none 0 0))), .one (.p (.raw (.int .i64 k)))] [] (.v (.one (.ref a 0))) [(a, .arr true 2 48 0 F)] []:=by
 refine azx bnl fun w ad=>?_
 rcases bl7 k with rfl | hk0
 · refine (aj0 w ad).mono ?_
   rintro e w' ⟨rfl,rfl⟩;exact ⟨_,rfl,Below.refl _ _, .inl rfl⟩
 refine (am3 k hk0 bnl w ad).mono ?_;rintro e w' ⟨G,ROW,rfl,hG,rfl,hR⟩;refine ⟨_,rfl,⟨rfl,rfl,rfl, ?_,fun q hq=>b9x w.drew _ hq,bmi _⟩, .inr ⟨⟨by simp, .inr ⟨_,G,ROW,rfl,bji _,heap_alloc_new w.drew _,bji _,hG,hR,by simp⟩⟩,fun g hg=>?_⟩⟩
 · show _ <= (w.heap.push _).size
   rw [Array.size_push];omega
 have:w.heap.size = g:=by simpa [cr] using hg
 omega
end
section
open Go.Proofs
def awa (l:List Fd) (hl:l.length <= 16777216):d4 bo6 231 [.one (.p (fdl l))] [] (.v (.one (.ref 900 (gu l).length))) [(900, .arr true 2 48 (gu l).length (lf Fd.c (gu l)))] []:=by
 refine hfx (nt:=22) Tryz.func231 ?_;refine c7 ?_;refine c6 0 rfl fun hn=>?_;refine w_6 ?_;refine cb 3 900 true 2 48 (lf Fd.c []) bns rfl (CoP.sl rfl (.inr rfl) (fun h=>h) (fun i j hi _=>absurd hi (bjh i))) (.inr rfl) rfl ?_;refine bg (ka 6 (ka 7 kn)) km (fun i=>⟨[(3,some (.v (.one (.ref 900 (gu (l.take i)).length)))),(8,some (vI i))],[(900,some (.arr true 2 48 (gu (l.take i)).length (lf Fd.c (gu (l.take i)))))]⟩) l.length kk ?_;rintro i hi;have hlen:=a60 (l.take i);rw [bjn] at hlen;refine w_5 ?_;refine hcd (fun h0=>?_) (fun h0=>?_)
 ·
  refine w_7 ?_;refine m9 0 ?_;refine w_6 ?_;refine qcx (wgx Tryz.func253) (bhj (gu (l.take i)) (l.getD i default)) ?_;refine w_2 ?_;refine ak _ rfl (fun r1=>?_) (fun r1=>?_)
  ·
   have h1:=cj r1;have hc:=cj r1;refine w_3 ?_;refine m9 1 ?_;refine r9 2 true ?_;refine w_6 ?_
   first | (refine ⟨i + 1, ?_, ?_, ?_⟩
            · show i + 1 <= _;omega
            · first | omega | (dsimp only;omega)
            exact ⟨⟨⟨_,rfl,(bv (a71 bnl hc))⟩,tt⟩,⟨⟨_,rfl,(p9 (a71 bnl hc) (CoP.refl _) (CoP.refl _))⟩,trivial⟩⟩)
         | (refine ⟨i + 1, ?_, ?_, ?_⟩
            · show i + 1 <= _;omega
            · first | omega | (dsimp only;omega)
            exact ⟨⟨⟨_,rfl,(bz (a8b bnl hc))⟩,tt⟩,⟨⟨_,rfl,(bq (a8b bnl hc))⟩,trivial⟩⟩)
  have h1:=ck r1;have hc:=ck r1;refine w_5 ?_
  first | (refine ⟨i + 1, ?_, ?_, ?_⟩
           · show i + 1 <= _;omega
           · first | omega | (dsimp only;omega)
           exact ⟨⟨⟨_,rfl,(bv (a71 bnl hc))⟩,tt⟩,⟨⟨_,rfl,(p9 (a71 bnl hc) (CoP.refl _) (CoP.refl _))⟩,trivial⟩⟩)
        | (refine ⟨i + 1, ?_, ?_, ?_⟩
           · show i + 1 <= _;omega
           · first | omega | (dsimp only;omega)
           exact ⟨⟨⟨_,rfl,(bz (a8b bnl hc))⟩,tt⟩,⟨⟨_,rfl,(bq (a8b bnl hc))⟩,trivial⟩⟩)
 obtain rfl:i = l.length:=by omega
 refine w_6 ?_;refine hrr ?_;exact ⟨_,_,rfl,bnn,CoR.of_eq (by rw [bjk];rfl),⟨⟨_,rfl,ew (by rw [bjk]) (by rw [bjk])⟩,trivial⟩⟩
def bdm (l:List Fd) (hl:l.length <= 16777216):a6 bo6 231 [pP (fdl l)] (a7 [pP (fdl (gu l))]) :=
 d4.pure (args:=[pP (fdl l)]) (l:=[.one (.ref 900 (gu l).length)]) (awa l hl) rfl ⟨rfl,trivial⟩
end
section
def az5 {α:Type} [Inhabited α] {s n k':Nat} {k:Int} {cl:Bool} {c:α -> Nat -> PV} {l:List α} (h:k.toNat = k') (hk:k' <= l.length) :
 CoP (.sl (dx (b8 n (some k)) none) s cl (rp (lf c l) none)) (psl s c (l.take k')):=by
 subst h;exact aq1 hk
def azy {α:Type} [Inhabited α] {s n k':Nat} {k:Int} {cl:Bool} {c:α -> Nat -> PV} {l:List α} (hn:n = l.length) (h:k.toNat = k'):CoP (.sl (dx n (some k)) s cl (rp (lf c l) (some k))) (psl s c (l.drop k')):=by
 subst h hn;exact b3m
def aj5 {l:List Fd} {i:Nat}:[l.take i,l.drop (i + 1)].flatten = li l i:=by simp [li]
def b6o {l:List Fd} {i:Nat} (hi:i < l.length) (hl:l.length <= 16777216):[l.take i,l.drop (i + 1)].flatten.length <= 16777216:=by
 rw [aj5,mf hi];omega
def be5 {x:Fd} {b:Int} {s:AS} (h:b = asI s):CoC (.agg [.raw (.int .u32 b), .raw (.int .u32 (asI x.rhs))]) (Fd.pc ⟨s,x.rhs⟩):=by
 subst h;exact CoC.refl _
end
section
open Go.Proofs
def rwC (l:List Fd):Nat -> PV
 | 0=>fdl l
 | _=>.any
abbrev bh0 (ls:List (List Fd)):PV:=psl 1 rwC ls
def b4b (ls:List (List Fd)) (h:ls.flatten.length <= 16777216):a6 bo6 254 [pP (bh0 ls)] (a7 [pP (fdl ls.flatten)]):=by
 refine hpx (nt:=36) Tryz.func254 ?_;refine c7 ?_;refine c6 0 rfl (fun hn=>?_);refine w_6 ?_;refine bg (ka 0 (ka 9 (ka 10 kn))) km (fun i=>⟨[(3,some (vI (ls.take i).flatten.length)),(11,some (vI i))],[]⟩) ls.length kk ?_;rintro i hi;refine w_5 ?_;refine hcd (fun h0=>?_) (fun h0=>?_)
 ·
  have hts:(ls.take (i + 1)).flatten.length = (ls.take i).flatten.length + (ls.getD ((i:Nat):Int).toNat default).length:=by rw [tsf _ _ bnl,bjj];rfl
  have hfl:(ls.take i).flatten.length + (ls.getD ((i:Nat):Int).toNat default).length <= ls.flatten.length:=a5q ls i bnl;refine alj ?_;refine hcd (fun h1=>?_) (fun h1=>?_)
  · exfalso;omega
  refine w_5 ?_;refine lpz (i + 1) kk ?_;show i + 1 <= _;omega
 obtain rfl:i = ls.length:=by omega
 have hfe:(ls.take ls.length).flatten.length = ls.flatten.length:=by rw [bjk]
 refine w_4 ?_;refine fc9 (wgx Tryz.func278) (bes (ls.take ls.length).flatten.length 900 bnl (lf Fd.c [])) trivial ?_;refine c7 ?_;refine bg (ka 25 (ka 26 kn)) km (fun i=>⟨[(6,some (.v (.one (.ref 900 (ls.take i).flatten.length)))),(27,some (vI i))],[(900,some (.arr true 2 48 (ls.take i).flatten.length (lf Fd.c (ls.take i).flatten)))]⟩) ls.length kk ?_;rintro i hi;refine w_5 ?_;refine hcd (fun h2=>?_) (fun h2=>?_)
 ·
  have hts:(ls.take (i + 1)).flatten.length = (ls.take i).flatten.length + (ls.getD ((i:Nat):Int).toNat default).length:=by rw [tsf _ _ bnl,bjj];rfl
  have hfl:(ls.take i).flatten.length + (ls.getD ((i:Nat):Int).toNat default).length <= ls.flatten.length:=a5q ls i bnl;refine fj ?_;refine r9 0 true ?_;refine w_6 ?_;refine lpz (i + 1) ⟨⟨⟨_,rfl,(CoR.of_eq (by rw [hts]))⟩,tt⟩,⟨⟨_,rfl,(by rw [tsf _ _ bnl];exact awm _ (fun h=>h) rfl (fun i j hi hj=>CoP.refl _))⟩,trivial⟩⟩ ?_;show i + 1 <= _;omega
 obtain rfl:i = ls.length:=by omega
 refine w_6 ?_;refine hrr ?_;rw [show ls.flatten = (ls.take ls.length).flatten by rw [bjk]];exact f9 rfl rfl (CoL.refl _)
def ape (l:List Fd) (i:Nat) (hi:i < l.length) (hl:l.length <= 16777216):a6 bo6 233 [pP (fdl l),pI i] (a7 [pP (fdl (li l i))]):=by
 refine hpx (nt:=14) Tryz.func233 ?_;refine w_5 ?_;have hll:=b6o hi hl;refine w_8 ?_;refine m9 0 ?_;refine fc9 (wgx Tryz.func254) (a6.eat (hcs:=[.one (.ref 0 2)]) (o1:=[(0, .arr true 1 26 2 (lf rwC [l.take i,l.drop (i + 1)]))]) (b4b [l.take i,l.drop (i + 1)] hll) rfl (by (repeat' apply And.intro) <;> first | trivial | rfl) (CoL.refl _)) ⟨⟨_,rfl,⟨fun h=>h,rfl,rfl,rfl,fun i j hi hj=>(by have hi:i < 2:=hi;have hj:j < 1:=hj;obtain rfl:j = 0:=bnl;rcases (show i = 0 \/ i = 1 by omega) with rfl | rfl;exact az5 rfl bnl;exact azy rfl bnl)⟩⟩,trivial⟩ ?_;refine v_3 ?_;exact ⟨CoC.one (CoP.of_eq (by rw [aj5])),trivial⟩
def bbj (l:List Fd) (i:Nat) (hi:i < l.length) (hl:l.length <= 16777216):a6 bo6 232 [pP (fdl l),pI i] (a7 [pB (ae3 l i)]):=by
 refine hpx (nt:=13) Tryz.func232 ?_;refine w_8 ?_;refine qcx (wgx Tryz.func233) (ape l i hi hl) ?_;refine w_4 ?_;refine qcx (wgx Tryz.func252) (bc6 (li l i) (l.getD i default)) ?_;refine v_3 ?_;exact CoL.refl _
def bbb (l:List Fd) (x:Fd) (a:Nat):a6 bo6 230 [pP (fdl l),x.pc,pI a] (a7 [pB (exB l x a)]):=by
 refine hpx (nt:=17) Tryz.func230 ?_;refine sx7 ?_;refine m9 0 ?_;refine j9 ?_;refine rc rfl rfl rfl rfl rfl rfl (wgx Tryz.func252) (bc6 l ⟨x.lhs &&& ~~~((1:AS) <<< a),x.rhs⟩) (⟨CoC.refl _,be5 (a6w _ _),trivial⟩) rfl rfl ?_;refine v_3 ?_;exact CoL.refl _
end
section
def bi6 (l:List Fd) (i k:Nat):List Fd:=kp (l.take i) ++ (eq ((l.getD i default).rhs &&& ~~~(l.getD i default).lhs) k).map fun a=>(⟨(l.getD i default).lhs,(1:AS) <<< a⟩:Fd)
def arw (x:Fd) (a:Nat):Fd:=⟨x.lhs &&& ~~~((1:AS) <<< a),x.rhs⟩
def tu (i:Nat) (l:List Fd) (a:Nat):List Fd:=if dl (l.getD i default).lhs a && exB l (l.getD i default) a then l.set i (arw (l.getD i default) a) else l
def qf (l:List Fd) (i k:Nat):List Fd:=((aj (l.getD i default).lhs).take k).foldl (tu i) l
def aak (l:List Fd) (i:Nat):List Fd:=(aj (l.getD i default).lhs).foldl (tu i) l
def l7 (l:List Fd) (i:Nat):List Fd:=(List.range i).foldl aak l
section
variable {a i:Nat} {l:List Fd}
def ajc:(tu i l a).length = l.length:=by
 unfold tu;split
 · rw [blo]
 rfl
def a6l:∀ (m:List Nat) (l:List Fd),(m.foldl (tu i) l).length = l.length
 | [],l=>rfl
 | a :: m,l=>by rw [blb,a6l m,ajc]
variable {k:Nat}
def ajs:(qf l i k).length = l.length:=a6l _ _
def az9:(aak l i).length = l.length:=a6l _ _
def oc:∀ {i:Nat},(l7 l i).length = l.length
 | 0=>rfl
 | i + 1=>by
  unfold l7;rw [bl4,bki];show (aak ((List.range i).foldl aak l) i).length = _;rw [az9];exact oc (i:=i)
def avy (l:List Fd) (i:Nat):l7 l (i + 1) = aak (l7 l i) i:=by
 unfold l7;rw [bl4,bki];rfl
def aue (l:List Fd) (i:Nat):qf l i 0 = l:=by unfold qf;rw [List.take_zero];rfl
def azn (hk:k = (aj (l.getD i default).lhs).length):qf l i k = aak l i:=by
 unfold qf aak;rw [hk,bjk]
def a0c (hk:k < (aj (l.getD i default).lhs).length):qf l i (k + 1) = tu i (qf l i k) ((aj (l.getD i default).lhs).getD k default):=by
 unfold qf;rw [au hk,bki];rfl
def agl {x:Fd} (hi:i < l.length):(l.set i x).getD i default = x:=by simp [List.getD,hi]
def aye {b:Nat} (hi:i < l.length) (hb:b < 32) (hne:b ≠ a):((tu i l a).getD i default).lhs.getLsbD b = (l.getD i default).lhs.getLsbD b:=by
 unfold tu;split
 · rw [agl hi]
   show ((l.getD i default).lhs &&& ~~~((1:AS) <<< a)).getLsbD b = _;rw [bjv,blg,v8 _ _ hb];simp [hb,hne]
 rfl
def agv {b:Nat} (hb:b < 32):∀ (m:List Nat) (l:List Fd),i < l.length -> (∀ a ∈ m,b ≠ a) -> ((m.foldl (tu i) l).getD i default).lhs.getLsbD b = (l.getD i default).lhs.getLsbD b
 | [],l,_,_=>rfl
 | a :: m,l,hi,h=>by
  rw [blb,agv hb m _ (by rw [ajc];exact hi) fun c hc=>h c (bkp _ hc),aye hi hb (h a bkl)]
def aqs (s:AS):(aj s).Pairwise (· < ·):=List.Pairwise.filter _ List.pairwise_lt_range
def alc {m:List Nat} (hk:k < m.length):m.getD k default = m[k]:=by simp [List.getD,hk]
def au6 {m:List Nat} (hk:k < m.length):m.getD k default ∈ m:=by rw [alc hk];exact bk7 hk
def axm (hi:i < l.length) (hk:k < (aj (l.getD i default).lhs).length):dl ((qf l i k).getD i default).lhs (((aj (l.getD i default).lhs).getD k default:Nat):Int) = true:=by
 have hm:(aj (l.getD i default).lhs).getD k default ∈ aj (l.getD i default).lhs:=au6 hk;obtain ⟨h1,h2⟩:=jc.1 hm;rw [j1 h1];unfold qf;rw [agv h1 _ _ hi,h2];intro a ha;obtain ⟨j,hj,rfl⟩:=bk4 ha;rw [bjn] at hj;rw [List.getElem_take,alc hk];have:=bla.1 (aqs (l.getD i default).lhs) j k bnl hk bnl;exact Nat.ne_of_gt this
def ate (h:dl (l.getD i default).lhs a = true) (h2:exB l (l.getD i default) a = true):tu i l a = l.set i (arw (l.getD i default) a):=by unfold tu;rw [h,h2];rfl
def av3 (h2:exB l (l.getD i default) a = false):tu i l a = l:=by unfold tu;rw [h2];simp
def ap1 {wr wr':Bool} {n:Nat} {e:TypeId} {l':List Fd} {v:Int} (hl:l' = l.set i (arw (l.getD i default) a)) (hv:v = asI ((l.getD i default).lhs &&& ~~~((1:AS) <<< a))) (hk:k = i) (hi:i < l.length) (hn:n = l.length) (hw:wr' = true -> wr = true:=by exact fun h=>h):
 CoO (.arr wr 2 e n (en (lf Fd.c l) k 0 [.raw (.int .u32 v)])) (.arr wr' 2 e n (lf Fd.c l')):=by
 subst hl hv hk hn;refine ⟨hw,rfl,rfl,rfl,fun r j hr hj=>CoP.of_eq ?_⟩;unfold en lf;by_cases h:r = k
 · subst h
   rw [agl hi]
   rcases (by omega:j = 0 \/ j = 1) with rfl | rfl
   · rw [if_pos ⟨rfl,bjg _,by simp⟩]
     rfl
   rw [if_neg bnp];rfl
 rw [if_neg bnl,getD_set_ne' h]
def aov {n:Nat} {cl:Bool} (h:n = l.length):CoP (.sl n 2 cl (lf Fd.c l)) (fdl l):=CoP.sl h.symm (.inl rfl) (fun h=>by cases h) fun _ _ _ _=>CoP.refl _
def uh:Nat -> List Fd -> Nat -> List Fd
 | 0,l,_=>l
 | f + 1,l,i=>if i < l.length then (if ae3 l i then uh f (li l i) i else uh f l (i + 1)) else l
def apq (hi:i < l.length) (h:ae3 l i = true):uh (l.length - i) l i = uh ((li l i).length - i) (li l i) i:=by
 rw [mf hi,show l.length - i = (l.length - 1 - i) + 1 by omega];show (if i < l.length then (if ae3 l i then _ else _) else l) = _;rw [if_pos hi,h];rfl
def anz (hi:i < l.length) (h:ae3 l i = false):uh (l.length - i) l i = uh (l.length - (i + 1)) l (i + 1):=by
 rw [show l.length - i = (l.length - (i + 1)) + 1 by omega];show (if i < l.length then (if ae3 l i then _ else _) else l) = _;rw [if_pos hi,h];rfl
def awu (hi:¬ i < l.length):uh (l.length - i) l i = l:=by rw [show l.length - i = 0 by omega];rfl
def spl (l:List Fd):List Fd:=gu (kp l)
def a2o (l:List Fd):List Fd:=gu (l7 (spl l) (spl l).length)
def aje (l:List Fd):List Fd:=uh (a2o l).length (a2o l) 0
def aqi (l:List Fd):(spl l).length <= 32 * l.length:=bjr (a60 _) (a4c l)
def aby (l:List Fd):(a2o l).length <= 32 * l.length:=bjr (a60 _) (by rw [oc];exact aqi l)
def bil (t:AS) (l:List Fd):Prop:=∀ x ∈ l,sub x.lhs t
end
end
section
open Go.Proofs
def b3q (l:List Fd) (hl:l.length <= 4096):d4 bo6 229 [.one (.p (fdl l))] [] (.v (.one (.ref 900 (spl l).length))) [(900, .arr true 2 48 (spl l).length (lf Fd.c (spl l)))] []:=by
 refine hfx (nt:=37) Tryz.func229 ?_;refine c7 ?_;refine c6 0 rfl fun hn=>?_;refine w_6 ?_;refine cb 3 901 true 2 48 (lf Fd.c []) bns rfl (CoP.sl rfl (.inr rfl) (fun h=>h) (fun i j hi _=>absurd hi (bjh i))) (.inr rfl) rfl ?_;refine bg (ka 8 (ka 9 kn)) km (fun i=>⟨[(3,some (.v (.one (.ref 901 (kp (l.take i)).length)))),(10,some (vI i))],[(901,some (.arr true 2 48 (kp (l.take i)).length (lf Fd.c (kp (l.take i)))))]⟩) l.length kk ?_;rintro i hi;refine w_5 ?_;refine hcd (fun h0=>?_) (fun h0=>?_)
 ·
  refine w_7 ?_;refine m9 0 ?_;refine w_9 ?_;refine rc rfl rfl rfl rfl rfl rfl a1z (aes ((l.getD i default).rhs &&& ~~~(l.getD i default).lhs)) (⟨cci (gk _ _),trivial⟩) rfl rfl ?_;refine w_4 ?_;refine bg (ka 5 (ka 8 (ka 9 (ka 10 (ka 19 (ka 20 kn)))))) (kb 0 km) (fun k=>⟨[(3,some (.v (.one (.ref 901 (nk l i k).length)))),(21,some (vI k))],[(901,some (.arr true 2 48 (nk l i k).length (lf Fd.c (nk l i k))))]⟩) ((aj ((l.getD i default).rhs &&& ~~~(l.getD i default).lhs)).length) ⟨⟨⟨_,rfl,(bz (a8w l i))⟩,tt⟩,⟨⟨_,rfl,(bq (a8w l i))⟩,trivial⟩⟩ ?_;rintro k hk;have hml:=n8 ((l.getD i default).rhs &&& ~~~(l.getD i default).lhs);have hsl:=at0 (l:=l) (i:=i) (k:=k) bnl;refine w_5 ?_;refine hcd (fun h1=>?_) (fun h1=>?_)
  · refine nx ?_;refine rq rfl rfl rfl rfl rfl ?_ (hp:=(blq _));refine qy ?_;refine m9 1 ?_;refine r9 2 true ?_;refine w_7 ?_;exact lpx (k + 1) ⟨⟨⟨_,rfl,(bv (a8n rfl bnl))⟩,tt⟩,⟨⟨_,rfl,(p9 (a8n rfl bnl) (CoP.refl _) (CoP.of_eq (by exact congrArg (fun z=>PV.raw (.int .u32 z)) (b75 _))))⟩,uu⟩⟩
  obtain rfl:k = (aj ((l.getD i default).rhs &&& ~~~(l.getD i default).lhs)).length:=by omega
  refine w_5 ?_;exact lpx (i + 1) ⟨⟨⟨_,rfl,(bz (aco bnl rfl).symm)⟩,tt⟩,⟨⟨_,rfl,(bq (aco bnl rfl).symm)⟩,trivial⟩⟩
 obtain rfl:i = l.length:=by omega
 refine w_2 ?_;refine aq 3 rfl rfl rfl ?_;refine w_2 ?_;refine gh rfl rfl rfl rfl rfl rfl (wgx Tryz.func231) (awa (kp l) (bjr (a4c l) bnl)) (⟨CoP.of_eq (by rw [bjk];rfl),trivial⟩) trivial rfl rfl ?_;refine w_2 ?_;refine hrr ?_;exact ⟨_,_,rfl,bnn,CoR.refl _,uu⟩
def bgp (l:List Fd) (hl:l.length <= 4096):a6 bo6 184 [pP (fdl l)] (a7 [pP (fdl (aje l))]):=by
 refine hpx (nt:=60) Tryz.func184 ?_;refine w_7 ?_;refine fc9 (wgx Tryz.func229) (b3q l hl) trivial ?_;refine w_4 ?_;have hsl:=aqi l;refine w_6 ?_;refine bg (ka 3 (ka 11 kn)) km (fun i=>⟨[(12,some (vI i))],[(900,some (.arr true 2 48 (spl l).length (lf Fd.c (l7 (spl l) i))))]⟩) ((spl l).length) kk ?_;rintro i hi;have htl:=oc (l:=spl l) (i:=i);refine w_5 ?_;refine hcd (fun h0=>?_) (fun h0=>?_)
 ·
  refine lb ?_;refine qcx a1z (aes ((l7 (spl l) i).getD i default).lhs) ?_;refine w_4 ?_;refine bg (ka 3 (ka 4 (ka 11 (ka 12 (ka 20 (ka 21 kn)))))) km (fun k=>⟨[(22,some (vI k))],[(900,some (.arr true 2 48 (spl l).length (lf Fd.c (qf (l7 (spl l) i) i k))))]⟩) ((aj ((l7 (spl l) i).getD i default).lhs).length) ⟨tt,⟨⟨_,rfl,(ew (aue _ _) rfl)⟩,trivial⟩⟩ ?_;rintro k hk;have hml:=n8 ((l7 (spl l) i).getD i default).lhs;refine w_5 ?_;refine hcd (fun h1=>?_) (fun h1=>?_)
  ·
   have hkl:(qf (l7 (spl l) i) i k).length = (spl l).length:=by rw [ajs,oc]
   have hhas:=axm (l:=(l7 (spl l) i)) (i:=i) (k:=k) (by rw [oc];omega) bnl;refine zc ?_;refine rc rfl rfl rfl rfl rfl rfl (wgx Tryz.func230) (bbb (qf (l7 (spl l) i) i k) ((qf (l7 (spl l) i) i k).getD i default) ((aj ((l7 (spl l) i).getD i default).lhs).getD k default)) (⟨CoC.one (aov (by rw [ajs,oc])),CoC.refl _,CoC.refl _,trivial⟩) rfl rfl ?_;refine c5 ?_;refine hcb (fun h2=>?_) (fun h2=>?_)
   ·
    refine w_7 ?_;refine rq rfl rfl rfl rfl rfl ?_ (hp:=(blq _));refine c7 ?_
    first | (refine ⟨k + 1, ?_, ?_, ?_⟩
             · show k + 1 <= _;omega
             · first | omega | (dsimp only;omega)
             exact ⟨tt,⟨⟨_,rfl,(ap1 (i:=i) (a:=(aj ((l7 (spl l) i).getD i default).lhs).getD k default) (l:=(qf (l7 (spl l) i) i k)) (by rw [a0c bnl,ate hhas bnm]) (a6w _ _) bnl bnl hkl.symm)⟩,trivial⟩⟩)
          | (refine ⟨k + 1, ?_, ?_, ?_⟩
             · show k + 1 <= _;omega
             · first | omega | (dsimp only;omega)
             exact ⟨tt,⟨⟨_,rfl,(ew (by rw [a0c bnl,av3 bnm]) rfl)⟩,trivial⟩⟩)
   refine w_5 ?_
   first | (refine ⟨k + 1, ?_, ?_, ?_⟩
            · show k + 1 <= _;omega
            · first | omega | (dsimp only;omega)
            exact ⟨tt,⟨⟨_,rfl,(ap1 (i:=i) (a:=(aj ((l7 (spl l) i).getD i default).lhs).getD k default) (l:=(qf (l7 (spl l) i) i k)) (by rw [a0c bnl,ate hhas bnm]) (a6w _ _) bnl bnl hkl.symm)⟩,trivial⟩⟩)
         | (refine ⟨k + 1, ?_, ?_, ?_⟩
            · show k + 1 <= _;omega
            · first | omega | (dsimp only;omega)
            exact ⟨tt,⟨⟨_,rfl,(ew (by rw [a0c bnl,av3 bnm]) rfl)⟩,trivial⟩⟩)
  obtain rfl:k = (aj ((l7 (spl l) i).getD i default).lhs).length:=by omega
  refine w_5 ?_;exact lpx (i + 1) ⟨tt,⟨⟨_,rfl,(ew (by rw [avy,azn rfl]) rfl)⟩,trivial⟩⟩
 obtain rfl:i = (spl l).length:=by omega
 refine w_2 ?_;refine aq 3 rfl rfl rfl ?_;refine w_2 ?_;refine rc rfl rfl rfl rfl rfl rfl (wgx Tryz.func231) (bdm (l7 (spl l) (spl l).length) (by rw [oc];omega)) (⟨CoC.one (aov (by rw [oc])),trivial⟩) rfl rfl ?_;refine w_4 ?_;have hrl:=aby l;refine w_4 ?_;refine ae (ι:=List Fd × Nat) kn km (fun x=>⟨[(3,some (bi (fdl x.1))),(7,some (vI x.2))],[]⟩) (fun x=>uh (x.1.length - x.2) x.1 x.2 = aje l /\ x.2 <= x.1.length /\ x.1.length <= 131072) (fun x=>x.1.length - x.2) ((a2o l,0)) (⟨rfl,bji _,by show (a2o l).length <= _;omega⟩) ⟨⟨zy,⟨_,rfl,(coi rfl)⟩,trivial⟩,trivial⟩ ?_;rintro x ⟨hx,hx2,hx3⟩;refine w_8 ?_;refine hcd (fun h3=>?_) (fun h3=>?_)
 ·
  refine w_6 ?_;refine qcx (wgx Tryz.func232) (bbj x.1 x.2 bnl bnl) ?_;refine c5 ?_;refine ak _ rfl (fun r4=>?_) (fun r4=>?_)
  ·
   have h4:=r4;have hq:=r4;refine w_3 ?_;refine qcx (wgx Tryz.func233) (ape x.1 x.2 bnl bnl) ?_;refine w_2 ?_
   first | (refine ⟨(li x.1 x.2, x.2), ?_, ?_, ?_⟩
            · have ho:=mf (l:=x.1) (i:=x.2) bnl
              exact ⟨by rw [<- hx,apq bnl hq],by dsimp only;omega,by dsimp only;omega⟩
            · have ho:=mf (l:=x.1) (i:=x.2) bnl
              dsimp only;omega
            exact ⟨⟨zy,⟨_,rfl,(coi bno)⟩,trivial⟩,trivial⟩)
         | (refine ⟨(x.1,x.2 + 1), ?_, ?_, ?_⟩
            · exact ⟨by rw [<- hx,anz bnl hq],by dsimp only;omega,by dsimp only;omega⟩
            · first | omega | (dsimp only;omega)
            exact ⟨⟨zy,⟨_,rfl,(coi bno)⟩,trivial⟩,trivial⟩)
  have h4:=r4;have hq:=r4;refine w_5 ?_
  first | (refine ⟨(li x.1 x.2, x.2), ?_, ?_, ?_⟩
           · have ho:=mf (l:=x.1) (i:=x.2) bnl
             exact ⟨by rw [<- hx,apq bnl hq],by dsimp only;omega,by dsimp only;omega⟩
           · have ho:=mf (l:=x.1) (i:=x.2) bnl
             dsimp only;omega
           exact ⟨⟨zy,⟨_,rfl,(coi bno)⟩,trivial⟩,trivial⟩)
        | (refine ⟨(x.1,x.2 + 1), ?_, ?_, ?_⟩
           · exact ⟨by rw [<- hx,anz bnl hq],by dsimp only;omega,by dsimp only;omega⟩
           · first | omega | (dsimp only;omega)
           exact ⟨⟨zy,⟨_,rfl,(coi bno)⟩,trivial⟩,trivial⟩)
 have hq:=h3;refine v_6 ?_;exact ⟨CoC.one (CoP.of_eq (by rw [<- hx,awu bnl])),trivial⟩
end
section
def a0u (n:Int) (l:List Fd):List Fd:=if bh n l = 0 then aje l else []
def bay {n:Int} {l:List Fd} (h:bh n l = 0):a0u n l = aje l:=if_pos h
def b9f {n:Int} {l:List Fd} (h:¬ bh n l = 0):a0u n l = []:=if_neg h
def bhe {s:Nat} {cl:Bool} {f:Nat -> Nat -> PV} {L:List Fd} (h:L = []):CoP (.sl 0 s cl f) (fdl L):=by subst h;exact avn
def a38 {s:Nat} {cl:Bool} {f:Nat -> Nat -> PV} {L:List AS} (h:L = []):CoP (.sl 0 s cl f) (asl L):=by subst h;exact avn
def bja (l:List Fd) (i k:Nat):List Fd:=(List.range k).foldl (tu i) l
end
section
open Go.Proofs
def bez (n:Int) (l:List Fd):a6 bo6 134 [pI n,pP (fdl l)] (a7 [pP (fdl (a0u n l)),pI (bh n l)]):=by
 refine hpx (nt:=15) Tryz.func134 ?_;refine c7 ?_;refine qcx uy (z8 n l) ?_;refine w_7 ?_;refine hcn (fun h0=>?_) (fun h0=>?_)
 · refine v_6 ?_;exact ⟨CoC.one (bhe (b9f bnm)),CoC.refl _,trivial⟩
 refine w_4 ?_;refine qcx (wgx Tryz.func184) (bgp l (by have:=(fv bnm).2.2.1;omega)) ?_;refine v_3 ?_;exact ⟨CoC.one (CoP.of_eq (by rw [bay bnm])),cci bnl,trivial⟩
end
end Go.Hx
