/- A part of the proof: SrW Cs10 V8 Cs11 Gr V9 Cs12 V10 Cs13. -/
import Derived.Shelf.SlSortCmp.NoneTotal
import Derived.Test.YtkkenjdfbojdlaaGreatDoorKx16
import Derived.Test.YtkkenjdfbojdlaaGreatDoorKx17
set_option linter.all false
set_option maxRecDepth 100000
set_option maxHeartbeats 1000000
namespace Go.Hx
section
open Go.Proofs Go.RowKit Go.Sort
section
variable {w:World}
def atj {w':World} (h:Below w.heap.size w w'):∃ q os,w' = grow (w.drewN q) os:=by
 refine ⟨w'.drawn - w.drawn,w'.heap.extract w.heap.size w'.heap.size, ?_⟩;have hd:=h.drawn;obtain ⟨h1,h2,h3,h4,h5,_⟩:=h
 cases w with
 | mk hp tp dr os out =>
 cases w' with
 | mk hp' tp' dr' os' out' =>
 dsimp only at *;subst h1 h2 h3;unfold grow World.drewN;simp only [World.mk.injEq,true_and,and_true];refine ⟨?_,by omega⟩;apply Array.ext_getElem?;intro k;rw [Array.getElem?_append];by_cases hk:k < hp.size
 · rw [if_pos hk,h5 k hk]
 rw [if_neg hk,Array.getElem?_extract];by_cases hk2:k < hp'.size
 · rw [if_pos bqi]
   congr 1;omega
 rw [if_neg bqi,bon bqi]
variable {os:Array Obj} {α:Type} {d:Array α} {enc:α -> Value}
def aux [Inhabited α] {g m:Nat} {cur:Array Value} {e:TypeId} {fr:Nat × Nat} (h:w.heap[g]? = some (.cells cur e fr)):
 (sortWorld enc w g 0 m d os).heap[g]? = some (.cells (putCells enc 0 d cur) e fr):=by
 have hlt:=(bme.1 h).1;unfold sortWorld;rw [heap_grow_old _ _ (by simpa using hlt)];unfold putRow mapBlock;simp only [heap_ahead,bp0,if_true,h];rfl
def a4k [Inhabited α] {g m:Nat} {b:Nat} (hb:b < w.heap.size) (hne:b ≠ g):(sortWorld enc w g 0 m d os).heap[b]? = w.heap[b]?:=by
 unfold sortWorld;rw [heap_grow_old _ _ (by simpa using hb)];unfold putRow mapBlock;simp only [heap_ahead,bp0,if_neg (Ne.symm hne)]
def auu [Inhabited α] {g m:Nat}:Below 0 w (sortWorld enc w g 0 m d os) :=
 ⟨rfl,rfl,rfl,by unfold sortWorld;simp,fun k hk=>absurd hk (bmf k),by unfold sortWorld grow;simp⟩
def b2r [Inhabited α] {cur:Array Value} (h:d.size <= cur.size):(putCells enc 0 d cur).toList.take d.size = d.toList.map enc:=by
 apply bop;intro k;rw [bmy,bn0,bp1,bp1];by_cases hk:k < d.size
 · rw [if_pos hk]
   unfold putCells;rw [Array.getElem?_mapIdx,bnb bqi,bnb hk];simp only [bn3,bna,bpg];rw [if_pos ⟨bmh _,hk⟩,getElem!_pos d k hk]
 rw [if_neg hk,bon bqi];rfl
def axl {P:Program} {ρ:Go.Shelf.Ren} [Inhabited α] (L:SlLaysF.n6 P ρ) (enc:α -> Value) (h1:∀ x,(enc x).oneCell' = true) (cf:α -> α -> Int) (hO:SWO (ltOf cf)) (hT:∀ x y,(ltOf cf) x y = false -> (ltOf cf) y x = false -> x = y) (g:Nat) (caps:Nat -> PV) (hg:∀ args w,(callFunc g args).run P w = .ok (.enter g args) w) (hc:∀ x y,a6 P g [.one (.raw (enc x)), .one (.raw (enc y))] (a8 [.one (.raw (.int .i64 (cf x y)))])) (id:Nat) (e:TypeId) (l:List α) (hsz:l.length <= 8589934592):
 d4 P (ρ.f 6) [.one (.ref id l.length), .one (.p (.fn g 0 caps))] [(id, .arr true 1 e l.length (lf (fun x _=>.raw (enc x)) l))] (.tup [])
  [(id, .arr true 1 e l.length (lf (fun x _=>.raw (enc x)) (l.mergeSort fun x y=>!(ltOf cf) y x)))] [id]:=by
 intro w c us hM hus
 match us,hus with
 | [u,v],⟨hu,hv,_⟩ =>
  obtain ⟨cs,rfl,hcl,_⟩:=hv;have hcs:cs = []:=bo3 hcl;subst hcs;have hl1:lk [(id,aa.arr true 1 e l.length (lf (fun x _=>.raw (enc x)) l))] id = some (.arr true 1 e l.length (lf (fun x _=>.raw (enc x)) l)):=by simp [lk]
  have hu2:=(hu.2.2 _ _ _ _ hl1 rfl).2 rfl;subst hu2;have hob:=hM.objs id _ hl1;obtain ⟨h0,hmax,h5⟩:=hob;have hlen:(l.mergeSort fun x y=>!(ltOf cf) y x).length = l.length:=bqf _
  have hev:∀ f':Nat -> Nat -> PV,Evo c (lk [(id,aa.arr true 1 e l.length (lf (fun x _=>.raw (enc x)) l))]) c (lk [(id,aa.arr true 1 e l.length f')]) id:=fun f' =>
   .inr (.inr ⟨_, .arr true 1 e l.length f',1,e,l.length,l.length,hl1,rfl,by simp [lk],rfl,bmd _,fun _=>rfl,fun _ _ _ _ _ _ _ h=>by cases h⟩)
  rcases boa l.length with hz | hpos
  ·
   have hl:l = []:=bo3 hz;subst hl
   have hform:∃ ad cap,c.own id = .slice ad 0 cap:=by
    rcases h5 with ⟨_,xs,h2,_⟩ | ⟨_,_,ad,cap,hv,_⟩
    · rcases h2.2 with ⟨hv,_⟩ | ⟨g,cap,cur,hv,_⟩
      · exact ⟨none,0,hv⟩
      exact ⟨_,cap,hv⟩
    exact ⟨ad,cap,hv⟩
   obtain ⟨ad,cap,hown⟩:=hform;have hms:([]:List α).mergeSort (fun x y=>!(ltOf cf) y x) = []:=by simp
   rw [hown,hms];refine (AnyF.slices_SortFunc_none { L with } ad cap (.func (.func g) #[] #[]) w).mono ?_;rintro e' w' ⟨rfl,rfl⟩
   exact ⟨_,c,rfl,⟨[],rfl,trivial⟩,hM,Below.refl _ _,fun _ _ _=>⟨rfl,rfl⟩,fun id0 ob b ho hb=>.inr ⟨id0,ob,ho,hb⟩,fun id0 hid=>by
    rw [bmx.1 hid]
    exact Evo.refl _ _ _⟩
  obtain ⟨h6,xs,h2,h4⟩:c.blk id = j9 (c.own id) /\ ∃ xs,w.ownsRow 0 e 1 (c.own id) l.length xs /\ ∀ i j,i < l.length -> j < 1 -> ∃ x,xs[i * 1 + j]? = some x /\ b4 c.imm (lf (fun x _=>.raw (enc x)) l i j) x:=by
   rcases h5 with h5 | ⟨h6 | h6,_⟩
   · exact h5
   · cases h6
   omega
  obtain ⟨hxl,hrow⟩:=h2
  rcases hrow with ⟨_,hz⟩ | ⟨b,cap,cur,hown,hbase,hheap,hnc,hcm,hcs,htake⟩
  · omega
  have hblk:c.blk id b:=by rw [h6,hown];rfl
  have hlt:b < w.heap.size:=(bme.1 hheap).1
  have hcell:∀ j,(hj:j < l.length) -> cur[j]? = some (enc l[j]):=fun j hj=>by
   obtain ⟨x,hx,hr⟩:=h4 j 0 hj bqi;rw [bqc,bos,<- htake,bmy,if_pos bqi,bp1] at hx;rw [hx];have hr:x = enc (l.getD j default) /\ _:=hr;rw [hr.1,bmb,bma hj];rfl
  have hH:Holds enc w b 0 l.toArray:=fun j hj=>by
   have hj:j < l.length:=by simpa using hj
   rw [bna];refine ⟨?_,by simp [World.frozen?,hheap]⟩;have:l.toArray[j]! = l[j]:=by rw [getElem!_pos l.toArray j (by simpa using hj)];simp
   rw [this];simp [World.cell?,hheap,hcell j hj]
  have hcmp:CmpLays1 P g #[] enc cf b 0 l.toArray.size w:=by
   intro m os dk hdk x y
   have hcimm:∀ b' ob,c.imm b' = some ob -> (sortWorld enc w b 0 m dk os).heap[b']? = some ob:=fun b' ob hb'=>by
    have hne:b' ≠ b:=fun he=>by
     have:=hM.sep id _ b hl1 hblk;rw [<- he,hb'] at this;cases this
    have hw:=hM.imm b' ob hb';rw [a4k (bme.1 hw).1 hne];exact hw
   have h:=hc x y (sortWorld enc w b 0 m dk os) c.imm [enc x,enc y] c.tab hcimm ⟨⟨rfl,h1 x⟩,⟨rfl,h1 y⟩,trivial⟩;refine h.mono ?_;rintro e' w' ⟨v,imm',rfl,hr,_,_,hb⟩;obtain ⟨q,os',hq⟩:=atj hb;exact ⟨by rw [hr.1],q,os',hq⟩
  have hS:=Any.slices_SortFunc_total L enc h1 cf hO g #[] b 0 cap l.toArray w hg hcmp hH hlt (by rw [bnp];omega) hT;rw [hown];refine Calls.mono hS ?_;rintro e' w' ⟨rfl,m,os,rfl⟩;generalize hSd:(l.mergeSort fun x y=>!(ltOf cf) y x) = S at *
  refine ⟨_,c,rfl,⟨[],rfl,trivial⟩,⟨fun id0 ob ho=>?_,fun id0 id1 ob0 ob1 b' ho0 ho1 _ _=>(iz ho0).1.trans (iz ho1).1.symm,fun b' ob hb'=>?_,fun id0 ob b' ho hb'=>?_⟩,auu,
   fun b' hb' hno=>⟨a4k hb' (fun he=>hno id _ hl1 (by rw [he];exact hblk)),rfl⟩,fun id0 ob b' ho hb'=>.inr ⟨id,_,hl1,by rw [<- (iz ho).1];exact hb'⟩,fun id0 hid=>by
    rw [bmx.1 hid]
    exact hev _⟩
  · obtain ⟨rfl,rfl⟩:=iz ho
    refine ⟨h0,hmax, .inl ⟨h6,S.map enc,⟨by simp [hlen], .inr ⟨b,cap,putCells enc 0 S.toArray cur,hown,hbase,aux hheap,hnc,hcm,by simpa [putCells] using hcs, ?_⟩⟩,fun i j hi hj=>?_⟩⟩
    · have:=b2r (enc:=enc) (d:=S.toArray) (cur:=cur) (by rw [bnp,hlen,hcs];omega)
      rw [bnp,hlen] at this;rw [bqc];exact this
    obtain rfl:j = 0:=by omega
    have hi':i < S.length:=by rw [hlen];exact hi
    refine ⟨enc S[i], ?_, ?_⟩
    · rw [bqc,bos,bn0,bma hi']
      rfl
    show b4 c.imm (.raw (enc (S.getD i default))) _;rw [bmb,bma hi'];exact ⟨rfl,h1 _⟩
  · have hne:b' ≠ b:=fun he=>by
     have:=hM.sep id _ b hl1 hblk;rw [<- he,hb'] at this;cases this
    have hw:=hM.imm b' ob hb';rw [a4k (bme.1 hw).1 hne];exact hw
  have:=(iz ho).1;subst this;exact hM.sep id0 _ b' hl1 hb'
 | [],h=>exact h.elim
 | [_],⟨_,h⟩=>exact h.elim
 | _ :: _ :: _ :: _,⟨_,_,h⟩=>exact h.elim
def a3k {a b:AS}:ltOf a49 a b = bef a b:=b18
def b04:SWO (ltOf a49) where
 irrefl x:=by rw [a3k];exact a32 x
 trans x y z h k:=by rw [a3k] at *;exact ui h k
 ntrans x y z h k:=by
  rw [a3k] at *;rw [bmm,ne_eq,nn] at *;omega
def srt (l:List AS):List AS:=l.mergeSort fun x y=>!bef y x
def aq2:goodFn br6 214:=⟨Tryz.f214,Tryz.func214,by kernel_rfl,by kernel_rfl⟩
def b41 (id:Nat) (caps:Nat -> PV) (l:List AS) (hsz:l.length <= 8589934592):d4 br6 214 [.one (.ref id l.length), .one (.p (.fn 215 0 caps))] [(id, .arr true 1 46 l.length (lf sC l))] (.tup [])
 [(id, .arr true 1 46 l.length (lf sC (srt l)))] [id]:=by
 have h:=axl Tryz.laysSort (fun s:AS=>.int .u32 (asI s)) (fun _=>rfl) a49 b04 (fun x y h k=>by
  rw [a3k] at h k;apply Classical.byContradiction;intro hne
  rcases a8t hne with h2 | h2
  · rw [h] at h2;cases h2
  rw [k] at h2;cases h2) 215 caps (enters_of Tryz.func215 (by kernel_rfl) rfl) (fun x y=>b3l x y) id 46 l hsz
 have e:(fun x y:AS=>!(ltOf a49) y x) = fun x y=>!bef y x:=by
  funext x y;rw [a3k]
 rw [e] at h;exact h
def b7o {l:List AS} {x:AS}:x ∈ srt l <-> x ∈ l:=by unfold srt;exact List.mem_mergeSort
def a82 (l:List AS):(srt l).length = l.length:=bqf _
def a7e:∀ {l:List AS} {p:Option AS},l.Pairwise (fun a b=>bef b a = false) -> (∀ x,p = some x -> ∀ y ∈ l,bef y x = false) -> (l8 p l).Pairwise (fun a b=>bef a b = true) /\ ∀ x,p = some x -> ∀ y ∈ l8 p l,bef x y = true
 | [],p,_,_=>⟨by simp [l8],fun x _ y hy=>by simp [l8] at hy⟩
 | z :: l,p,h,hp=>by
  obtain ⟨h1,h2⟩:=bnk.1 h;simp only [l8];split
  · rename_i e
    subst e;exact a7e h2 fun x hx y hy=>hp x hx y (bni _ hy)
  rename_i hne
  obtain ⟨q1,q2⟩:=a7e (p:=some z) h2 fun x hx y hy=>by
   simp only [bm9] at hx;subst hx;exact h1 y hy
  refine ⟨bnk.2 ⟨fun y hy=>q2 z rfl y hy,q1⟩,fun x hx y hy=>?_⟩
  have hxz:bef x z = true:=by
   have h3:=hp x hx z bnj
   rcases a8t (a:=x) (b:=z) (fun e=>hne (by rw [hx,e])) with h4 | h4
   · exact h4
   rw [h3] at h4;cases h4
  rcases bmp.1 hy with rfl | hy
  · exact hxz
  exact ui hxz (q2 z rfl y hy)
def a4o (l:List AS):jb (srt l) = ord l:=by
 refine awd (a7e ?_ fun x hx=>by cases hx).1 fun z=>by rw [aog,b7o]
 have h:=List.pairwise_mergeSort (le:=fun x y:AS=>!bef y x) (fun a b c h k=>by
  simp only [bn8] at *;rw [bmm,ne_eq,nn] at *
  omega) (fun a b=>by
  simp only [bnz,bn8];rw [bmm,bmm,ne_eq,ne_eq,nn,nn]
  omega) l
 refine h.imp fun {a b} hab=>?_;simpa using hab
end
end
section
abbrev vB (b:Bool):HR:=bp (.raw (.bool b))
abbrev bx (a:PV):PV:=.vp 1 fun j=>[a].getD j .any
def sb (W:AS -> AS -> Bool) (l:List AS) (x:AS):Bool:=l.any fun b=>decide (x ≠ b) && W x b
def a0x (W:AS -> AS -> Bool) (l:List AS):List AS:=(ord l).filter fun x=>!sb W (ord l) x
def o3 (a b:AS):Bool:=decide (sub a b)
def er (l:List AS):List AS:=a0x o3 l
def xb (l:List AS):(ord l).Nodup:=(jj l).imp fun {a b} h e=>by
 subst e;rw [a32] at h;cases h
def okT (l:List AS) (i k:Nat):Bool:=(List.range k).all fun j=>decide (j = i) || !o3 (l.getD i default) (l.getD j default)
def b3q (l:List AS) (i k:Nat):okT l i (k + 1) = (okT l i k && (decide (k = i) || !o3 (l.getD i default) (l.getD k default))):=by
 unfold okT;rw [bo0,List.all_append];simp
def okT_succ' (l:List AS) (i k:Nat):okT l i (k + 1) = (okT l i k && (decide ((k:Int) = i) || !o3 (l.getD i default) (l.getD k default))):=by
 rw [b3q,decide_eq_decide.2 (show (k:Int) = i <-> k = i by omega)]
def apo {l:List AS} {i:Nat} (hn:l.Nodup) (hi:i < l.length):okT l i l.length = !sb o3 l (l.getD i default):=by
 rw [bo8];unfold okT sb;rw [bnh,bn8,bo7];constructor
 · intro h b hb hc
   obtain ⟨j,hj,rfl⟩:=bn1 hb;have:=h j (bmq.2 hj);simp only [bml,decide_eq_true_eq,bnz,bn8,bmb,bma hj,bma hi,bn6] at this hc
   rcases this with h1 | h1
   · subst h1;exact hc.1 rfl
   rw [hc.2] at h1;cases h1
 intro h j hj;have hj:=bmq.1 hj;have:=h l[j] (bmz hj);simp only [bmb,bma hj,bma hi,bn6,bnz,decide_eq_true_eq,bn8,bml] at this ⊢;by_cases e:j = i
 · exact .inl e
 right;rw [bmm];intro hs;refine this ⟨fun he=>e ?_,hs⟩;exact ((List.getElem_inj hn).1 he).symm
def qu (l:List AS) (i:Nat):List AS:=((ord l).take i).filter fun x=>!sb o3 (ord l) x
def a8p {l:List AS} {i:Nat} (hi:i < (ord l).length) (h:okT (ord l) i (ord l).length = true):qu l (i + 1) = qu l i ++ [(ord l).getD i default]:=by
 rw [apo (xb l) hi] at h;unfold qu;rw [am hi,bnc];simp only [bnf,h,if_true,bnw]
def a8u {l:List AS} {i:Nat} (hi:i < (ord l).length) (h:okT (ord l) i (ord l).length = false):qu l (i + 1) = qu l i:=by
 rw [apo (xb l) hi] at h;unfold qu;rw [am hi,bnc];simp only [bnf,h,bnq,if_false,bnw,bn9]
def av2 (l:List AS) (i:Nat):(qu l i).length <= i:=by
 unfold qu;exact bmo (bo2 _ _) (by rw [bmk];omega)
def auy (l:List AS):qu l (ord l).length = er l:=by
 unfold qu er a0x;rw [bmi]
end
section
open Go.Proofs
def zi:goodFn br6 169:=wgx Tryz.func169
def a5s (l:List AS) (hl:l.length <= 8589934592):a6 br6 169 [pP (asl l)] (a8 [pP (asl (ord l))]):=by
 refine hpx (nt:=10) Tryz.func169 ?_;refine w_7 ?_;refine fc9 a7s (a3f l.length false (lf sC l) bqi) trivial ?_;refine w_5 ?_;refine fc9 aq2 (b41 0 _ l hl) uu ?_;refine w_4 ?_;refine gj rfl rfl rfl rfl rfl rfl (wgx Tryz.func216) ((b2k (srt l)).swap 900 0) (⟨congrArg (HV.ref 0) (a82 l).symm,trivial⟩) ⟨⟨_,rfl,dg rfl (a82 l).symm⟩,trivial⟩ rfl rfl ?_;refine v_2 ?_;exact ⟨CoC.one (CoP.of_eq (by rw [a4o])),trivial⟩
def b84 (b x:AS) (g k:Nat) (caps:Nat -> PV) (W:AS -> AS -> Bool) (hg:goodFn br6 g) (hW:∀ x y,a6 br6 g (pA x :: pA y :: ip caps k 0) (a8 [pB (W x y)])):a6 br6 186 [pA b,pP (bx (asC x)),pP (bx (.fn g k caps))] (a8 [pB (decide (x ≠ b) && W x b)]):=by
 refine hpx (nt:=14) Tryz.func186 ?_;refine c5 ?_;refine ah rfl rfl (fun r0=>?_) (fun r0=>?_)
 ·
  have h0:=tz2 (cu r0);(iterate 3 refine qy ?_ (hg:=(gtt r0)));refine rc rfl rfl rfl rfl rfl rfl hg (hW x b) (CoL.refl _) rfl (gtt r0) ?_;refine w_3 ?_
  exact hx8 rfl rfl rfl (⟨ccb (by simp_all [c6]),trivial⟩)
 have h0:=tz1 (ct r0);(iterate 4 refine k9 (gft r0) ?_);refine rq rfl rfl rfl rfl rfl ?_ (hp:=r0);refine w_2 ?_
 exact hx8 rfl rfl rfl (⟨ccb (by simp_all [c6]),trivial⟩)
def bcb (x:AS) (l:List AS) (g k:Nat) (caps:Nat -> PV) (W:AS -> AS -> Bool) (hg:goodFn br6 g) (hW:∀ x y,a6 br6 g (pA x :: pA y :: ip caps k 0) (a8 [pB (W x y)])):a6 br6 185 [pA x,pP (bx (asl l)),pP (bx (.fn g k caps))] (a8 [pB (sb W l x)]):=by
 refine hpx (nt:=8) Tryz.func185 ?_;refine sx7 ?_;refine m9 0 ?_;refine w_3 ?_;refine cz 3 rfl rfl rfl ?_;refine w_3 ?_;refine qcx agi (asq l 186 2 (fun i=>[bx (asC x),bx (.fn g k caps)].getD i .any) (fun b=>decide (x ≠ b) && W x b) (wgx Tryz.func186) (fun b=>b84 b x g k caps W hg hW)) ?_;refine v_2 ?_;exact CoL.refl _
def b3w (l:List AS) (hl:l.length <= 8589934592) (g k:Nat) (caps:Nat -> PV) (W:AS -> AS -> Bool) (hg:goodFn br6 g) (hW:∀ x y,a6 br6 g (pA x :: pA y :: ip caps k 0) (a8 [pB (W x y)])):a6 br6 137 [pP (asl l),pP (.fn g k caps)] (a8 [pP (asl (a0x W l))]):=by
 refine hpx (nt:=12) Tryz.func137 ?_;refine sx7 ?_;refine m9 2 ?_;refine w_5 ?_;refine qcx zi (a5s l hl) ?_;refine m9 3 ?_;refine w_3 ?_;refine cz 5 rfl rfl rfl ?_;refine cz 3 rfl rfl rfl ?_;refine w_2 ?_;refine fc9 a7s (a3f (ord l).length false (lf sC (ord l)) (bmo (jw l) bqi)) trivial ?_;refine qy ?_;refine fc9 aej ((atb (ord l) 185 2 (fun i=>[bx (asl (ord l)),bx (.fn g k caps)].getD i .any) (sb W (ord l)) (wgx Tryz.func185) (fun x=>bcb x (ord l) g k caps W hg hW)).swap 900 0) uu ?_;refine v_2 ?_;exact CoL.refl _
def bix (a b:AS):a6 br6 138 [pA a,pA b] (a8 [pB (o3 a b)]):=by
 refine hpx (nt:=9) Tryz.func138 ?_;refine dy ?_;exact hx8 rfl rfl rfl (⟨ccb (decide_eq_decide.2 i9),trivial⟩)
def ane:goodFn br6 75:=wgx Tryz.func75
def abm (l:List AS) (hl:l.length <= 8589934592):a6 br6 75 [pP (asl l)] (a8 [pP (asl (er l))]):=by
 refine hpx (nt:=5) Tryz.func75 ?_;refine w_7 ?_;refine qcx (wgx Tryz.func137) (b3w l hl 138 0 _ o3 (wgx Tryz.func138) (fun a b=>bix a b)) ?_;refine v_2 ?_;exact CoL.refl _
def ah6 (l:List AS) (hl:l.length <= 8589934592):a6 br6 85 [pP (asl l)] (a8 [pP (asl (er l))]):=by
 refine hpx (nt:=49) Tryz.func85 ?_;refine cq ?_;refine qcx a7z (a94 l hl) ?_;refine w_8 ?_;have hol:=jw l;refine bw 3 900 true 1 46 (lf sC []) bqo rfl (CoP.sl rfl (.inr rfl) (fun h=>h) (fun i j hi _=>absurd hi (bmf i))) (.inr rfl) rfl ?_;refine b5 (ka 4 kn) km (fun i=>⟨[(3,some (.v (.one (.ref 900 (qu l i).length)))),(5,some (vI i))],[(900,some (.arr true 1 46 (qu l i).length (lf sC (qu l i))))]⟩) ((ord l).length) kk ?_;rintro i hi;have hlen:=av2 l i;refine w_8 ?_;refine hcd (fun h0=>?_) (fun h0=>?_)
 ·
  refine ja ?_;refine b5 (ka 3 (ka 4 (ka 5 kn))) (kb 900 km) (fun k=>⟨[(6,some (vB (okT (ord l) i k))),(7,some (vI k))],[]⟩) ((ord l).length) ⟨⟨⟨_,rfl,(cob rfl)⟩,tt⟩,trivial⟩ ?_;rintro k hk;refine w_8 ?_;refine hcd (fun h1=>?_) (fun h1=>?_)
  ·
   refine w_6 ?_;refine ah rfl rfl (fun r2=>?_) (fun r2=>?_)
   ·
    have h2:=r2;(iterate 4 refine qy ?_ (hg:=(gtt r2)));refine ah rfl rfl (fun r3=>?_) (fun r3=>?_)
    ·
     have h3:=tz1 r3;(iterate 10 refine k9 (gtf r3) ?_);refine rq rfl rfl rfl rfl (gtt r2) ?_ (hp:=r3);refine w_9 ?_
     exact lpx (k + 1) ⟨⟨⟨_,rfl,(cob (by rw [okT_succ'];simp_all only [o3];simp))⟩,tt⟩,uu⟩
    have h3:=tz2 r3;(iterate 8 refine qy ?_ (hg:=(gff r3)));refine qcx l6 (qp _ _) ?_ (hg:=(gff r3));refine qy ?_ (hg:=(gff r3));refine qy ?_ (hg:=(gtt r2));refine w_9 ?_
    exact lpx (k + 1) ⟨⟨⟨_,rfl,(cob (by rw [okT_succ'];simp_all only [o3];simp))⟩,tt⟩,uu⟩
   have h2:=r2;(iterate 4 refine k9 (gft r2) ?_);(iterate 10 refine k9 rfl ?_);refine k9 (gft r2) ?_;refine rq rfl rfl rfl rfl rfl ?_ (hp:=r2);refine w_8 ?_
   exact lpx (k + 1) ⟨⟨⟨_,rfl,(cob (by rw [okT_succ'];simp_all only [o3];simp))⟩,tt⟩,uu⟩
  obtain rfl:k = (ord l).length:=by omega
  refine w_5 ?_;refine hcb (fun h4=>?_) (fun h4=>?_)
  ·
   refine w_6 ?_;refine m9 0 ?_;refine r9 1 true ?_;refine w_7 ?_
   first | (refine ⟨i + 1, ?_, ?_, ?_⟩
            · show i + 1 <= _;omega
            · first | omega | (dsimp only;omega)
            exact ⟨⟨⟨_,rfl,(bg (a8p bqi bqj))⟩,tt⟩,⟨⟨_,rfl,(bh (a8p bqi bqj) (CoP.refl _))⟩,trivial⟩⟩)
         | (refine ⟨i + 1, ?_, ?_, ?_⟩
            · show i + 1 <= _;omega
            · first | omega | (dsimp only;omega)
            exact ⟨⟨⟨_,rfl,(bi (a8u bqi bqj))⟩,tt⟩,⟨⟨_,rfl,(b8 (a8u bqi bqj))⟩,trivial⟩⟩)
  refine w_6 ?_
  first | (refine ⟨i + 1, ?_, ?_, ?_⟩
           · show i + 1 <= _;omega
           · first | omega | (dsimp only;omega)
           exact ⟨⟨⟨_,rfl,(bg (a8p bqi bqj))⟩,tt⟩,⟨⟨_,rfl,(bh (a8p bqi bqj) (CoP.refl _))⟩,trivial⟩⟩)
        | (refine ⟨i + 1, ?_, ?_, ?_⟩
           · show i + 1 <= _;omega
           · first | omega | (dsimp only;omega)
           exact ⟨⟨⟨_,rfl,(bi (a8u bqi bqj))⟩,tt⟩,⟨⟨_,rfl,(b8 (a8u bqi bqj))⟩,trivial⟩⟩)
 obtain rfl:i = (ord l).length:=by omega
 refine w_6 ?_;refine al 2 rfl rfl rfl ?_;exact hx8 rfl rfl rfl (⟨CoC.one (CoP.of_eq (by rw [<- auy];rfl)),trivial⟩)
end
section
def ep (l:List Fd):List Fd:=l.foldl (fun o x=>if x ∈ o then o else o ++ [x]) []
section
variable {i:Nat} {l:List Fd}
def ady (hi:i < l.length):ep (l.take (i + 1)) = if l.getD i default ∈ ep (l.take i) then ep (l.take i) else ep (l.take i) ++ [l.getD i default]:=by
 unfold ep;rw [am hi,bnn];rfl
def a52 {s:Fd}:(l.any fun x=>decide (x = s)) = decide (s ∈ l):=by
 rw [bo8,bne,decide_eq_true_iff];constructor
 · rintro ⟨x,hx,h⟩
   exact of_decide_eq_true h ▸ hx
 intro h;exact ⟨s,h,decide_eq_true rfl⟩
def ub (hi:i < l.length) (h:((ep (l.take i)).any fun x=>decide (x = l.getD i default)) = false):ep (l.take (i + 1)) = ep (l.take i) ++ [l.getD i default]:=by
 rw [a52] at h;rw [ady hi,if_neg (of_decide_eq_false h)]
def tu (hi:i < l.length) (h:((ep (l.take i)).any fun x=>decide (x = l.getD i default)) = true):ep (l.take (i + 1)) = ep (l.take i):=by
 rw [a52] at h;rw [ady hi,if_pos (of_decide_eq_true h)]
def a68:∀ (l o:List Fd),(l.foldl (fun o x=>if x ∈ o then o else o ++ [x]) o).length <= o.length + l.length /\ ∀ z,z ∈ l.foldl (fun o x=>if x ∈ o then o else o ++ [x]) o <-> z ∈ o \/ z ∈ l
 | [],o=>⟨by simp,fun z=>by simp⟩
 | x :: l,o=>by
  obtain ⟨h1,h2⟩:=a68 l (if x ∈ o then o else o ++ [x]);simp only [bo9];refine ⟨?_,fun z=>?_⟩
  · refine bmo h1 ?_
    split <;> simp <;> omega
  rw [h2 z,bmp];split
  · rename_i hx
    constructor
    · rintro (h | h) <;> simp [h]
    rintro (h | rfl | h)
    · exact .inl h
    · exact .inl hx
    exact .inr h
  rw [bmu,bmx];constructor
  · rintro ((h | h) | h) <;> simp [h]
  rintro (h | h | h) <;> simp [h]
def a10 (l:List Fd):(ep l).length <= l.length:=by
 have:=(a68 l []).1;simpa [ep] using this
def xv {z:Fd}:z ∈ ep l <-> z ∈ l:=by
 have:=(a68 l []).2 z;simpa [ep] using this
def a8q (l:List Fd) (i k:Nat):Bool:=(l.take k).any fun x=>decide (x = l.getD i default)
def aed {k:Nat} (hk:k < l.length):a8q l i (k + 1) = (a8q l i k || decide (l.getD k default = l.getD i default)):=by
 unfold a8q;rw [am hk,List.any_append];simp
def ad1:a8q l i i = ((ep (l.take i)).any fun x=>decide (x = l.getD i default)):=by
 unfold a8q;rw [a52,a52];exact decide_eq_decide.2 xv.symm
def vf (f:Fd):List Fd:=(aj (f.rhs &&& ~~~f.lhs)).map fun a=>(⟨f.lhs,(1:AS) <<< a⟩:Fd)
def fw (l:List Fd):List Fd:=(l.map vf).flatten
def oi (l:List Fd) (i k:Nat):List Fd:=fw (l.take i) ++ (vf (l.getD i default)).take k
def a4d (f:Fd):(vf f).length = (aj (f.rhs &&& ~~~f.lhs)).length:=by unfold vf;rw [bms]
def o0 (s:AS):(aj s).length <= 32:=by rw [<- tn];exact anw s
def aa5 (l:List Fd) (i:Nat):oi l i 0 = fw (l.take i):=by unfold oi;rw [List.take_zero,bn9]
def aa4 {k:Nat} {m:List Nat} (hm:m = aj ((l.getD i default).rhs &&& ~~~(l.getD i default).lhs)) (hk:k < m.length):oi l i (k + 1) = oi l i k ++ [⟨(l.getD i default).lhs,(1:AS) <<< m.getD k default⟩]:=by
 subst hm;unfold oi;generalize l.getD i default = x at *;rw [List.take_add_one,bnm];congr 1;congr 1;unfold vf;rw [bn0,bma hk,bmb,bma hk];rfl
def ae4 (hi:i < l.length) {k:Nat} (hk:k = (aj ((l.getD i default).rhs &&& ~~~(l.getD i default).lhs)).length):oi l i k = fw (l.take (i + 1)):=by
 subst hk;unfold oi fw;rw [<- a4d,bmi,am hi,boh,List.flatten_append];simp
def vh (l:List Fd):(fw l).length <= 32 * l.length:=by
 induction l with
 | nil=>simp [fw]
 | cons x l ih =>
  have h:fw (x :: l) = vf x ++ fw l:=by simp [fw]
  have h2:=a4d x;have h3:=o0 (x.rhs &&& ~~~x.lhs);rw [h,bmg,bn7];omega
def at7 {k:Nat} (hi:i <= l.length):(oi l i k).length <= 32 * l.length + 32:=by
 have h1:=vh (l.take i);have h2:=o0 ((l.getD i default).rhs &&& ~~~(l.getD i default).lhs);rw [bmk] at h1;unfold oi;rw [bmg,bmk,a4d];omega
def exB (l:List Fd) (x:Fd) (a:Nat):Bool:=imp l ⟨x.lhs &&& ~~~((1:AS) <<< a),x.rhs⟩
def w3 (s:AS) (a:Nat):ay .andNot .u32 (asI s) (IntKind.wrap .u32 (1 * 2 ^ (min a 32))) = asI (s &&& ~~~((1:AS) <<< a)):=by
 rw [show IntKind.wrap .u32 (1 * 2 ^ (min a 32)) = asI ((1:AS) <<< a) from am5 1 a,i7]
def aes (a:Nat):IntKind.wrap .u32 (1 * 2 ^ (min a 32)) = asI ((1:AS) <<< a):=am5 1 a
def gh (l:List Fd) (i:Nat):List Fd:=l.take i ++ l.drop (i + 1)
def aay (l:List Fd) (i:Nat):Bool:=imp (gh l i) (l.getD i default)
def gn (hi:i < l.length):(gh l i).length = l.length - 1:=by unfold gh;rw [bmg,bmk,bnv];omega
end
end
section
open Go.Proofs Go.Lib Go.RowKit
set_option maxHeartbeats 4000000 in
set_option maxRecDepth 100000 in
def aoe (k:Nat) (hk:0 < k) (hbig:k * 8 <= 140737488355328) (w:World) (ad:Option Addr) :
 Calls br6 278 #[.slice ad 0 0, .int .i64 k] w fun e w'=>∃ G ROW,e = .returned (.slice (some ⟨w.heap.size,0,none⟩) 0 G) /\ G <= maxLen /\ w' = w.drew.alloc (.cells ROW 48) /\ ROW.size = G * 2:=by
 obtain ⟨i0,z,hi0,hz0,hzs,hzb,hzc⟩:∃ i0 z,br6.info? 48 = some i0 /\ i0.zero = some z /\ i0.size = 2 /\ i0.bytes = 8 /\ z.cells.size = 2:=by
  have h:(br6.info? 48).map (fun i=>(i.zero.map (fun z=>z.cells.size),i.size,i.bytes)) = some (some 2,2,8):=by kernel_rfl
  cases hq:br6.info? 48 with
  | none=>rw [hq] at h;cases h
  | some i0 =>
   rw [hq] at h
   cases hz:i0.zero with
   | none=>simp [hz] at h
   | some z=>simp [hz] at h;exact ⟨i0,z,rfl,hz,h.2.1,h.2.2,h.1⟩
 have hc:0 + k <= maxLen:=by unfold maxLen;omega
 have hold:(Builtin.firstCells i0.size 0 (.slice ad 0 0)).run br6 w.drew = .ok (([]:List Value)).toArray w.drew:=by
  cases ad with
  | none=>exact run_firstCells_none w.drew _ _ _ _
  | some a=>exact run_firstCells_some w.drew _ 0 a 0 0 [] bqm (fun j v hj=>by simp at hj)
 obtain ⟨G,hG⟩:∃ G,G = grownCap w (0 + k) 0 48:=⟨_,rfl⟩;have hGn:0 + k <= G:=by rw [hG];exact grownCap_ge w _ _ _
 have hGm:G <= maxLen:=by rw [hG];exact grownCap_le_maxLen w (0 + k) 0 48 hc
 obtain ⟨ROW,hROW⟩:∃ ROW:Array Value,ROW = ([]:List Value).toArray ++ Builtin.zeroCells z.cells k ++ Builtin.zeroCells z.cells (G - (0 + k)):=⟨_,rfl⟩
 have hrz:(Builtin.append_ #[26,3] 26 #[.slice ad 0 0, .int .i64 (k:Int)]).run br6 w = .ok (.slice (some ⟨w.heap.size,0,none⟩) k G) (w.drew.alloc (.cells ROW 48)):=by
  have h:=Lib.run_append_grow_zeros w 26 3 26 48 i0 z .i64 .i64 Tryz.underlying26 Tryz.underlying3 hi0 hz0 ad 0 0 [] hold k hk bqi bqi (by unfold maxLen at hc;omega) (by rw [hzb];omega) (by rw [hzb,bna];exact growslice_fits bqi hbig);rw [<- hG,<- hROW] at h;rw [h];simp
 have hRs:ROW.size = G * 2:=by
  rw [hROW];simp only [bp3,bnp,bof,size_zeroCells,hzc];omega
 have mixed:=xh;have hcM:G <= 9223372036854775807:=by unfold maxLen at hGm;omega
 have hk0:¬ ((k:Int) < 0):=by omega
 have hk1:(0:Int) < (k:Int):=by omega
 have hw1:IntKind.i64.wrap (k:Int) = (k:Int):=by rw [IntKind.wrap_i64];omega
 clear hG hROW hold
 rcases ad with _ | ⟨ab,ao,asp⟩
 all_goals go_enter Tryz.func278,Tryz.ntmps278
 all_goals go_wp2_with (at_builtin;refine Lib.wpList_append_run _ rfl _ _ _ _ rfl _ _ rfl rfl _ _ hrz ?_)
 all_goals go_ret
 all_goals first | exact ⟨G,ROW,rfl,hGm,rfl,hRs⟩ | exact ⟨G,rfl,hGm,ROW,rfl,hRs⟩
def akr (w:World) (ad:Option Addr):Calls br6 278 #[.slice ad 0 0, .int .i64 0] w fun e w'=>e = .returned (.slice ad 0 0) /\ w' = w:=by
 have mixed:=xh
 go_enter Tryz.func278,Tryz.ntmps278
 go_wp2
 go_ret
 exact ⟨rfl,rfl⟩
def bh0 (k a:Nat) (hk:k <= 68719476736) (F:Nat -> Nat -> PV) :
 d4 br6 278 [.one (.p (ll (.slice none 0 0))), .one (.p (.raw (.int .i64 k)))] [] (.v (.one (.ref a 0))) [(a, .arr true 2 48 0 F)] []:=by
 refine b1l bqi fun w ad=>?_
 rcases boa k with rfl | hk0
 · refine (akr w ad).mono ?_
   rintro e w' ⟨rfl,rfl⟩;exact ⟨_,rfl,Below.refl _ _, .inl rfl⟩
 refine (aoe k hk0 bqi w ad).mono ?_;rintro e w' ⟨G,ROW,rfl,hG,rfl,hR⟩;refine ⟨_,rfl,⟨rfl,rfl,rfl, ?_,fun q hq=>bgf w.drew _ hq,bpd _⟩, .inr ⟨⟨by simp, .inr ⟨_,G,ROW,rfl,bmh _,heap_alloc_new w.drew _,bmh _,hG,hR,by simp⟩⟩,fun g hg=>?_⟩⟩
 · show _ <= (w.heap.push _).size
   rw [Array.size_push];omega
 have:w.heap.size = g:=by simpa [cr] using hg
 omega
end
section
open Go.Proofs
def aza (l:List Fd) (hl:l.length <= 16777216):d4 br6 231 [.one (.p (fdl l))] [] (.v (.one (.ref 900 (ep l).length))) [(900, .arr true 2 48 (ep l).length (lf Fd.c (ep l)))] []:=by
 refine hfx (nt:=22) Tryz.func231 ?_;refine c5 ?_;refine c8 0 rfl fun hn=>?_;refine w_6 ?_;refine bw 3 900 true 2 48 (lf Fd.c []) bqo rfl (CoP.sl rfl (.inr rfl) (fun h=>h) (fun i j hi _=>absurd hi (bmf i))) (.inr rfl) rfl ?_;refine b5 (ka 6 (ka 7 kn)) km (fun i=>⟨[(3,some (.v (.one (.ref 900 (ep (l.take i)).length)))),(8,some (vI i))],[(900,some (.arr true 2 48 (ep (l.take i)).length (lf Fd.c (ep (l.take i)))))]⟩) l.length kk ?_;rintro i hi;have hlen:=a10 (l.take i);rw [bmk] at hlen;refine w_5 ?_;refine hcd (fun h0=>?_) (fun h0=>?_)
 ·
  refine w_7 ?_;refine m9 0 ?_;refine w_6 ?_;refine qcx (wgx Tryz.func253) (bkp (ep (l.take i)) (l.getD i default)) ?_;refine w_2 ?_;refine ak _ rfl (fun r1=>?_) (fun r1=>?_)
  ·
   have h1:=cu r1;have hc:=cu r1;refine w_3 ?_;refine m9 1 ?_;refine r9 2 true ?_;refine w_6 ?_
   first | (refine ⟨i + 1, ?_, ?_, ?_⟩
            · show i + 1 <= _;omega
            · first | omega | (dsimp only;omega)
            exact ⟨⟨⟨_,rfl,(bg (ub bqi hc))⟩,tt⟩,⟨⟨_,rfl,(jh (ub bqi hc) (CoP.refl _) (CoP.refl _))⟩,trivial⟩⟩)
         | (refine ⟨i + 1, ?_, ?_, ?_⟩
            · show i + 1 <= _;omega
            · first | omega | (dsimp only;omega)
            exact ⟨⟨⟨_,rfl,(bi (tu bqi hc))⟩,tt⟩,⟨⟨_,rfl,(b8 (tu bqi hc))⟩,trivial⟩⟩)
  have h1:=ct r1;have hc:=ct r1;refine w_5 ?_
  first | (refine ⟨i + 1, ?_, ?_, ?_⟩
           · show i + 1 <= _;omega
           · first | omega | (dsimp only;omega)
           exact ⟨⟨⟨_,rfl,(bg (ub bqi hc))⟩,tt⟩,⟨⟨_,rfl,(jh (ub bqi hc) (CoP.refl _) (CoP.refl _))⟩,trivial⟩⟩)
        | (refine ⟨i + 1, ?_, ?_, ?_⟩
           · show i + 1 <= _;omega
           · first | omega | (dsimp only;omega)
           exact ⟨⟨⟨_,rfl,(bi (tu bqi hc))⟩,tt⟩,⟨⟨_,rfl,(b8 (tu bqi hc))⟩,trivial⟩⟩)
 obtain rfl:i = l.length:=by omega
 refine w_6 ?_;refine hrr ?_;exact ⟨_,_,rfl,bqk,CoR.of_eq bqy,⟨⟨_,rfl,dg (by rw [bmi]) (by rw [bmi])⟩,trivial⟩⟩
def bhk (l:List Fd) (hl:l.length <= 16777216):a6 br6 231 [pP (fdl l)] (a8 [pP (fdl (ep l))]) :=
 d4.pure (args:=[pP (fdl l)]) (l:=[.one (.ref 900 (ep l).length)]) (aza l hl) rfl ⟨rfl,trivial⟩
def aq6 (l:List Fd) (hl:l.length <= 16777216):d4 br6 195 [.one (.p (fdl l))] [] (.v (.one (.ref 900 (ep l).length))) [(900, .arr true 2 48 (ep l).length (lf Fd.c (ep l)))] []:=by
 refine hfx (nt:=40) Tryz.func195 ?_;refine c5 ?_;refine c8 0 rfl fun hn=>?_;refine w_4 ?_;refine bw 3 900 true 2 48 (lf Fd.c []) bqo rfl (CoP.sl rfl (.inr rfl) (fun h=>h) (fun i j hi _=>absurd hi (bmf i))) (.inr rfl) rfl ?_;refine b5 (ka 0 kn) km (fun i=>⟨[(3,some (.v (.one (.ref 900 (ep (l.take i)).length)))),(4,some (vI i))],[(900,some (.arr true 2 48 (ep (l.take i)).length (lf Fd.c (ep (l.take i)))))]⟩) l.length kk ?_;rintro i hi;have hlen:=a10 (l.take i);rw [bmk] at hlen;refine w_8 ?_;refine hcd (fun h0=>?_) (fun h0=>?_)
 ·
  refine ja ?_;refine b5 (ka 0 (ka 3 (ka 4 kn))) (kb 900 km) (fun k=>⟨[(5,some (vB (a8q l i k))),(6,some (vI k))],[]⟩) i ⟨⟨⟨_,rfl,(cob rfl)⟩,tt⟩,trivial⟩ ?_;rintro k hk;refine w_7 ?_;refine hcd (fun h1=>?_) (fun h1=>?_)
  ·
   refine w_6 ?_;refine ah rfl rfl (fun r2=>?_) (fun r2=>?_)
   ·
    have h2:=r2;(iterate 9 refine k9 (gtf r2) ?_);refine rq rfl rfl rfl rfl rfl ?_ (hp:=r2);refine w_8 ?_
    exact lpx (k + 1) ⟨⟨⟨_,rfl,(cob (by rw [aed bqi];simp_all [Fd.eq_iff,c6]))⟩,tt⟩,uu⟩
   have h2:=r2;(iterate 9 refine qy ?_ (hg:=(gff r2)));refine w_9 ?_
   exact lpx (k + 1) ⟨⟨⟨_,rfl,(cob (by rw [aed bqi];simp_all [Fd.eq_iff,c6]))⟩,tt⟩,uu⟩
  obtain rfl:i = k:=by omega
  refine w_6 ?_;refine ak _ rfl (fun r3=>?_) (fun r3=>?_)
  ·
   have h3:=cu r3;have hc:=(ad1 (l:=l) (i:=i)).symm.trans (cu r3);refine w_6 ?_;refine m9 0 ?_;refine r9 1 true ?_;refine w_7 ?_
   first | (refine ⟨i + 1, ?_, ?_, ?_⟩
            · show i + 1 <= _;omega
            · first | omega | (dsimp only;omega)
            exact ⟨⟨⟨_,rfl,(bg (ub bqi hc))⟩,tt⟩,⟨⟨_,rfl,(jh (ub bqi hc) (CoP.refl _) (CoP.refl _))⟩,trivial⟩⟩)
         | (refine ⟨i + 1, ?_, ?_, ?_⟩
            · show i + 1 <= _;omega
            · first | omega | (dsimp only;omega)
            exact ⟨⟨⟨_,rfl,(bi (tu bqi hc))⟩,tt⟩,⟨⟨_,rfl,(b8 (tu bqi hc))⟩,trivial⟩⟩)
  have h3:=ct r3;have hc:=(ad1 (l:=l) (i:=i)).symm.trans (ct r3);refine w_6 ?_
  first | (refine ⟨i + 1, ?_, ?_, ?_⟩
           · show i + 1 <= _;omega
           · first | omega | (dsimp only;omega)
           exact ⟨⟨⟨_,rfl,(bg (ub bqi hc))⟩,tt⟩,⟨⟨_,rfl,(jh (ub bqi hc) (CoP.refl _) (CoP.refl _))⟩,trivial⟩⟩)
        | (refine ⟨i + 1, ?_, ?_, ?_⟩
           · show i + 1 <= _;omega
           · first | omega | (dsimp only;omega)
           exact ⟨⟨⟨_,rfl,(bi (tu bqi hc))⟩,tt⟩,⟨⟨_,rfl,(b8 (tu bqi hc))⟩,trivial⟩⟩)
 obtain rfl:i = l.length:=by omega
 refine w_6 ?_;refine hrr ?_;exact ⟨_,_,rfl,bqk,CoR.of_eq bqy,⟨⟨_,rfl,dg (by rw [bmi]) (by rw [bmi])⟩,trivial⟩⟩
def bgq (l:List Fd) (hl:l.length <= 16777216):a6 br6 195 [pP (fdl l)] (a8 [pP (fdl (ep l))]) :=
 d4.pure (args:=[pP (fdl l)]) (l:=[.one (.ref 900 (ep l).length)]) (aq6 l hl) rfl ⟨rfl,trivial⟩
end
section
def b3k {α:Type} [Inhabited α] {s n k':Nat} {k:Int} {cl:Bool} {c:α -> Nat -> PV} {l:List α} (h:k.toNat = k') (hk:k' <= l.length) :
 CoP (.sl (d9 (ax n (some k)) none) s cl (n8 (lf c l) none)) (psl s c (l.take k')):=by
 subst h;exact aqk hk
def b1h {α:Type} [Inhabited α] {s n k':Nat} {k:Int} {cl:Bool} {c:α -> Nat -> PV} {l:List α} (hn:n = l.length) (h:k.toNat = k'):CoP (.sl (d9 n (some k)) s cl (n8 (lf c l) (some k))) (psl s c (l.drop k')):=by
 subst h hn;exact b94
def am9 {l:List Fd} {i:Nat}:[l.take i,l.drop (i + 1)].flatten = gh l i:=by simp [gh]
def bak {l:List Fd} {i:Nat} (hi:i < l.length) (hl:l.length <= 16777216):[l.take i,l.drop (i + 1)].flatten.length <= 16777216:=by
 rw [am9,gn hi];omega
def b51 {x:Fd} {b:Int} {s:AS} (h:b = asI s):CoC (.agg [.raw (.int .u32 b), .raw (.int .u32 (asI x.rhs))]) (Fd.pc ⟨s,x.rhs⟩):=by
 subst h;exact CoC.refl _
def bdo {l:List Fd} {i:Nat} (hi:i < l.length) {f0:Nat -> Nat -> PV}:CoP (.sl (0 + d9 (ax l.length (some (i:Int))) none + d9 (ax l.length none) (some ((i:Int) + 1))) 2 false
 (eq (0 + d9 (ax l.length (some (i:Int))) none) (eq 0 f0 (n8 (lf Fd.c l) none)) (n8 (lf Fd.c l) (some ((i:Int) + 1))))) (fdl (gh l i)):=by
 have e1:d9 (ax l.length (some (i:Int))) none = i:=by simp [d9,ax]
 have e2:d9 (ax l.length none) (some ((i:Int) + 1)) = l.length - (i + 1):=by simp only [d9,ax];omega
 rw [e1,e2];refine CoP.sl (by rw [gn hi];omega) (.inl rfl) (fun h=>by cases h) fun a j ha hj=>CoP.of_eq ?_;unfold eq gh;rw [bna];by_cases h:a < i
 · rw [if_pos h,if_neg bqi,bpg]
   simp only [lf,bmb];rw [bns (by rw [bmk];omega),bmy,if_pos h];rfl
 rw [if_neg h];simp only [lf,bmb];rw [bnr (by rw [bmk];omega),bmk,boj,bo5 bqi];show Fd.c ((l[((i:Int) + 1).toNat + (a - i)]?).getD default) j = _;congr 4
end
section
open Go.Proofs
def rwC (l:List Fd):Nat -> PV
 | 0=>fdl l
 | _=>.any
abbrev bk6 (ls:List (List Fd)):PV:=psl 1 rwC ls
def bbt (ls:List (List Fd)) (h:ls.flatten.length <= 16777216):a6 br6 254 [pP (bk6 ls)] (a8 [pP (fdl ls.flatten)]):=by
 refine hpx (nt:=36) Tryz.func254 ?_;refine c5 ?_;refine c8 0 rfl (fun hn=>?_);refine w_6 ?_;refine b5 (ka 0 (ka 9 (ka 10 kn))) km (fun i=>⟨[(3,some (vI (ls.take i).flatten.length)),(11,some (vI i))],[]⟩) ls.length kk ?_;rintro i hi;refine w_5 ?_;refine hcd (fun h0=>?_) (fun h0=>?_)
 ·
  have hts:(ls.take (i + 1)).flatten.length = (ls.take i).flatten.length + (ls.getD ((i:Nat):Int).toNat default).length:=by rw [tsf _ _ bqi,bmg];rfl
  have hfl:(ls.take i).flatten.length + (ls.getD ((i:Nat):Int).toNat default).length <= ls.flatten.length:=a7f ls i bqi;refine ak9 ?_;refine hcd (fun h1=>?_) (fun h1=>?_)
  · exfalso;omega
  refine w_5 ?_;refine lpz (i + 1) kk ?_;show i + 1 <= _;omega
 obtain rfl:i = ls.length:=by omega
 have hfe:(ls.take ls.length).flatten.length = ls.flatten.length:=by rw [bmi]
 refine w_4 ?_;refine fc9 (wgx Tryz.func278) (bh0 (ls.take ls.length).flatten.length 900 bqi (lf Fd.c [])) trivial ?_;refine c5 ?_;refine b5 (ka 25 (ka 26 kn)) km (fun i=>⟨[(6,some (.v (.one (.ref 900 (ls.take i).flatten.length)))),(27,some (vI i))],[(900,some (.arr true 2 48 (ls.take i).flatten.length (lf Fd.c (ls.take i).flatten)))]⟩) ls.length kk ?_;rintro i hi;refine w_5 ?_;refine hcd (fun h2=>?_) (fun h2=>?_)
 ·
  have hts:(ls.take (i + 1)).flatten.length = (ls.take i).flatten.length + (ls.getD ((i:Nat):Int).toNat default).length:=by rw [tsf _ _ bqi,bmg];rfl
  have hfl:(ls.take i).flatten.length + (ls.getD ((i:Nat):Int).toNat default).length <= ls.flatten.length:=a7f ls i bqi;refine dy ?_;refine r9 0 true ?_;refine w_6 ?_;refine lpz (i + 1) ⟨⟨⟨_,rfl,(CoR.of_eq (by rw [hts]))⟩,tt⟩,⟨⟨_,rfl,(by rw [tsf _ _ bqi];exact ayt _ (fun h=>h) rfl (fun i j hi hj=>CoP.refl _))⟩,trivial⟩⟩ ?_;show i + 1 <= _;omega
 obtain rfl:i = ls.length:=by omega
 refine w_6 ?_;refine hrr ?_;rw [show ls.flatten = (ls.take ls.length).flatten by rw [bmi]];exact f9 rfl rfl (CoL.refl _)
def asn (l:List Fd) (i:Nat) (hi:i < l.length) (hl:l.length <= 16777216):a6 br6 233 [pP (fdl l),pI i] (a8 [pP (fdl (gh l i))]):=by
 refine hpx (nt:=14) Tryz.func233 ?_;refine w_5 ?_;have hll:=bak hi hl;refine w_8 ?_;refine m9 0 ?_;refine fc9 (wgx Tryz.func254) (a6.eat (hcs:=[.one (.ref 0 2)]) (o1:=[(0, .arr true 1 26 2 (lf rwC [l.take i,l.drop (i + 1)]))]) (bbt [l.take i,l.drop (i + 1)] hll) rfl (by (repeat' apply And.intro) <;> first | trivial | rfl) (CoL.refl _)) ⟨⟨_,rfl,⟨fun h=>h,rfl,rfl,rfl,fun i j hi hj=>(by have hi:i < 2:=hi;have hj:j < 1:=hj;obtain rfl:j = 0:=bqi;rcases (show i = 0 \/ i = 1 by omega) with rfl | rfl;exact b3k rfl bqi;exact b1h rfl bqi)⟩⟩,trivial⟩ ?_;refine v_3 ?_;exact ⟨CoC.one (CoP.of_eq (by rw [am9])),trivial⟩
def bg4 (l:List Fd) (i:Nat) (hi:i < l.length) (hl:l.length <= 16777216):a6 br6 232 [pP (fdl l),pI i] (a8 [pB (aay l i)]):=by
 refine hpx (nt:=13) Tryz.func232 ?_;refine w_8 ?_;refine qcx (wgx Tryz.func233) (asn l i hi hl) ?_;refine w_4 ?_;refine qcx (wgx Tryz.func252) (bgt (gh l i) (l.getD i default)) ?_;refine v_3 ?_;exact CoL.refl _
def bdf (l:List Fd) (x:Fd) (a:Nat):a6 br6 230 [pP (fdl l),x.pc,pI a] (a8 [pB (exB l x a)]):=by
 refine hpx (nt:=17) Tryz.func230 ?_;refine sx7 ?_;refine m9 0 ?_;refine ja ?_;refine rc rfl rfl rfl rfl rfl rfl (wgx Tryz.func252) (bgt l ⟨x.lhs &&& ~~~((1:AS) <<< a),x.rhs⟩) (⟨CoC.refl _,b51 (w3 _ _),trivial⟩) rfl rfl ?_;refine v_3 ?_;exact CoL.refl _
def aks (l:List Fd) (i:Nat) (hi:i < l.length) (hl:l.length <= 16777216):a6 br6 197 [pP (fdl l),pI i] (a8 [pP (fdl (gh l i))]):=by
 refine hpx (nt:=15) Tryz.func197 ?_;refine w_6 ?_;refine m9 0 ?_;refine w_3 ?_;refine r9 1 true ?_;refine w_4 ?_;refine r9 2 true ?_;refine w_3 ?_;refine al 4 rfl rfl rfl ?_;exact hx8 rfl rfl rfl (⟨CoC.one (bdo hi),trivial⟩)
def bac (l:List Fd) (i:Nat) (hi:i < l.length) (hl:l.length <= 16777216):a6 br6 196 [pP (fdl l),pI i] (a8 [pB (aay l i)]):=by
 refine hpx (nt:=13) Tryz.func196 ?_;refine w_8 ?_;refine qcx (wgx Tryz.func197) (aks l i hi hl) ?_;refine w_4 ?_;refine qcx (wgx Tryz.func236) (b50 (gh l i) (l.getD i default)) ?_;refine v_3 ?_;exact CoL.refl _
def b6q (l:List Fd) (i a:Nat) (hi:i < l.length):a6 br6 194 [pP (fdl l),pI i,pI a] (a8 [pB (d6 (l.getD i default).lhs a && exB l (l.getD i default) a)]):=by
 refine hpx (nt:=32) Tryz.func194 ?_;refine dy ?_;refine qcx ov (a1z _ _) ?_;refine qy ?_;refine ah rfl rfl (fun r0=>?_) (fun r0=>?_)
 · have h0:=r0;(iterate 15 refine qy ?_ (hg:=(gtt r0)));refine rc rfl rfl rfl rfl rfl rfl (wgx Tryz.func236) (b50 l ⟨(l.getD i default).lhs &&& ~~~((1:AS) <<< a),(l.getD i default).rhs⟩) (⟨CoC.refl _,b51 (w3 _ _),trivial⟩) rfl (gtt r0) ?_;refine v_4 ?_;exact ⟨ccb (by simp_all [exB]),trivial⟩
 have h0:=r0;(iterate 16 refine k9 (gft r0) ?_);refine rq rfl rfl rfl rfl rfl ?_ (hp:=r0);refine w_3 ?_
 exact hx8 rfl rfl rfl (⟨ccb (by simp_all [exB]),trivial⟩)
end
section
def lb (l:List Fd) (i k:Nat):List Fd:=fw (l.take i) ++ (eu ((l.getD i default).rhs &&& ~~~(l.getD i default).lhs) k).map fun a=>(⟨(l.getD i default).lhs,(1:AS) <<< a⟩:Fd)
def a9s (l:List Fd) (i:Nat):lb l i 0 = fw (l.take i):=by unfold lb eu;simp
section
variable {i k:Nat} {l:List Fd}
def a4y (hk:k < 32) (h:d6 ((l.getD i default).rhs &&& ~~~(l.getD i default).lhs) k = true):lb l i (k + 1) = lb l i k ++ [⟨(l.getD i default).lhs,(1:AS) <<< k⟩]:=by
 unfold lb;rw [ni hk h,boh,bnm];rfl
def a4x (hk:k < 32) (h:d6 ((l.getD i default).rhs &&& ~~~(l.getD i default).lhs) k = false):lb l i (k + 1) = lb l i k:=by
 unfold lb;rw [rj hk h]
def adv (hi:i < l.length):lb l i 32 = fw (l.take (i + 1)):=by
 unfold lb fw;rw [am hi,boh,List.flatten_append];simp [vf,aj,eu]
def asz (hk:k <= 32):(lb l i k).length <= 32 * l.length + 32:=by
 have h1:=vh (l.take i);have h2:=ahp ((l.getD i default).rhs &&& ~~~(l.getD i default).lhs) k;rw [bmk] at h1;unfold lb;rw [bmg,bms];omega
def ao0 (x:Fd) (a:Nat):Fd:=⟨x.lhs &&& ~~~((1:AS) <<< a),x.rhs⟩
def im (i:Nat) (l:List Fd) (a:Nat):List Fd:=if d6 (l.getD i default).lhs a && exB l (l.getD i default) a then l.set i (ao0 (l.getD i default) a) else l
def s7 (l:List Fd) (i k:Nat):List Fd:=((aj (l.getD i default).lhs).take k).foldl (im i) l
def a4g (l:List Fd) (i:Nat):List Fd:=(aj (l.getD i default).lhs).foldl (im i) l
def gp (l:List Fd) (i:Nat):List Fd:=(List.range i).foldl a4g l
variable {a:Nat}
def aae:(im i l a).length = l.length:=by
 unfold im;split
 · rw [bol]
 rfl
def a1s:∀ (m:List Nat) (l:List Fd),(m.foldl (im i) l).length = l.length
 | [],l=>rfl
 | a :: m,l=>by rw [bo9,a1s m,aae]
def aok:(s7 l i k).length = l.length:=a1s _ _
def b27:(a4g l i).length = l.length:=a1s _ _
def j1:∀ {i:Nat},(gp l i).length = l.length
 | 0=>rfl
 | i + 1=>by
  unfold gp;rw [bo0,bnn];show (a4g ((List.range i).foldl a4g l) i).length = _;rw [b27];exact j1 (i:=i)
def a0v (l:List Fd) (i:Nat):gp l (i + 1) = a4g (gp l i) i:=by
 unfold gp;rw [bo0,bnn];rfl
def ayg (l:List Fd) (i:Nat):s7 l i 0 = l:=by unfold s7;rw [List.take_zero];rfl
def b03 (hk:k = (aj (l.getD i default).lhs).length):s7 l i k = a4g l i:=by
 unfold s7 a4g;rw [hk,bmi]
def a1d (hk:k < (aj (l.getD i default).lhs).length):s7 l i (k + 1) = im i (s7 l i k) ((aj (l.getD i default).lhs).getD k default):=by
 unfold s7;rw [am hk,bnn];rfl
def agz {x:Fd} (hi:i < l.length):(l.set i x).getD i default = x:=by simp [List.getD,hi]
def aoo {b:Nat} (hi:i < l.length) (hb:b < 32) (hne:b ≠ a):((im i l a).getD i default).lhs.getLsbD b = (l.getD i default).lhs.getLsbD b:=by
 unfold im;split
 · rw [agz hi]
   show ((l.getD i default).lhs &&& ~~~((1:AS) <<< a)).getLsbD b = _;rw [bmr,bob,re _ _ hb];simp [hb,hne]
 rfl
def ahr {b:Nat} (hb:b < 32):∀ (m:List Nat) (l:List Fd),i < l.length -> (∀ a ∈ m,b ≠ a) -> ((m.foldl (im i) l).getD i default).lhs.getLsbD b = (l.getD i default).lhs.getLsbD b
 | [],l,_,_=>rfl
 | a :: m,l,hi,h=>by
  rw [bo9,ahr hb m _ (by rw [aae];exact hi) fun c hc=>h c (bni _ hc),aoo hi hb (h a bnj)]
def au8 (s:AS):(aj s).Pairwise (· < ·):=List.Pairwise.filter _ List.pairwise_lt_range
def an9 {m:List Nat} (hk:k < m.length):m.getD k default = m[k]:=by simp [List.getD,hk]
def ayr {m:List Nat} (hk:k < m.length):m.getD k default ∈ m:=by rw [an9 hk];exact bmz hk
def azl (hi:i < l.length) (hk:k < (aj (l.getD i default).lhs).length):d6 ((s7 l i k).getD i default).lhs (((aj (l.getD i default).lhs).getD k default:Nat):Int) = true:=by
 have hm:(aj (l.getD i default).lhs).getD k default ∈ aj (l.getD i default).lhs:=ayr hk;obtain ⟨h1,h2⟩:=j8.1 hm;rw [gk h1];unfold s7;rw [ahr h1 _ _ hi,h2];intro a ha;obtain ⟨j,hj,rfl⟩:=bn1 ha;rw [bmk] at hj;rw [List.getElem_take,an9 hk];have:=bod.1 (au8 (l.getD i default).lhs) j k bqi hk bqi;exact Nat.ne_of_gt this
def axj (h:d6 (l.getD i default).lhs a = true) (h2:exB l (l.getD i default) a = true):im i l a = l.set i (ao0 (l.getD i default) a):=by unfold im;rw [h,h2];rfl
def awx (h2:exB l (l.getD i default) a = false):im i l a = l:=by unfold im;rw [h2];simp
def aqy (h2:(d6 (l.getD i default).lhs a && exB l (l.getD i default) a) = false):im i l a = l:=by unfold im;rw [h2];rfl
def arm (h2:(d6 (l.getD i default).lhs a && exB l (l.getD i default) a) = true):im i l a = l.set i (ao0 (l.getD i default) a):=by unfold im;rw [h2];rfl
def avm (h:d6 (l.getD i default).lhs a = false):im i l a = l:=by unfold im;rw [h];rfl
def a85 {wr wr':Bool} {n:Nat} {e:TypeId} {l':List Fd} {v:Int} (hl:l' = l.set i (ao0 (l.getD i default) a)) (hv:v = asI ((l.getD i default).lhs &&& ~~~((1:AS) <<< a))) (hk:k = i) (hi:i < l.length) (hn:n = l.length) (hw:wr' = true -> wr = true:=by exact fun h=>h):
 CoO (.arr wr 2 e n (ez (lf Fd.c l) k 0 [.raw (.int .u32 v)])) (.arr wr' 2 e n (lf Fd.c l')):=by
 subst hl hv hk hn;refine ⟨hw,rfl,rfl,rfl,fun r j hr hj=>CoP.of_eq ?_⟩;unfold ez lf;by_cases h:r = k
 · subst h
   rw [agz hi]
   rcases (by omega:j = 0 \/ j = 1) with rfl | rfl
   · rw [if_pos ⟨rfl,bmd _,by simp⟩]
     rfl
   rw [if_neg bqm];rfl
 rw [if_neg bqi,getD_set_ne' h]
def a80 {n:Nat} {cl:Bool} (h:n = l.length):CoP (.sl n 2 cl (lf Fd.c l)) (fdl l):=CoP.sl h.symm (.inl rfl) (fun h=>by cases h) fun _ _ _ _=>CoP.refl _
def pi:Nat -> List Fd -> Nat -> List Fd
 | 0,l,_=>l
 | f + 1,l,i=>if i < l.length then (if aay l i then pi f (gh l i) i else pi f l (i + 1)) else l
def a97 (hi:i < l.length) (h:aay l i = true):pi (l.length - i) l i = pi ((gh l i).length - i) (gh l i) i:=by
 rw [gn hi,show l.length - i = (l.length - 1 - i) + 1 by omega];show (if i < l.length then (if aay l i then _ else _) else l) = _;rw [if_pos hi,h];rfl
def a8f (hi:i < l.length) (h:aay l i = false):pi (l.length - i) l i = pi (l.length - (i + 1)) l (i + 1):=by
 rw [show l.length - i = (l.length - (i + 1)) + 1 by omega];show (if i < l.length then (if aay l i then _ else _) else l) = _;rw [if_pos hi,h];rfl
def ahe (hi:¬ i < l.length):pi (l.length - i) l i = l:=by rw [show l.length - i = 0 by omega];rfl
def spl (l:List Fd):List Fd:=ep (fw l)
def xo (l:List Fd):List Fd:=ep (gp (spl l) (spl l).length)
def a7r (l:List Fd):List Fd:=pi (xo l).length (xo l) 0
def af8 (l:List Fd):(spl l).length <= 32 * l.length:=bmo (a10 _) (vh l)
def a44 (l:List Fd):(xo l).length <= 32 * l.length:=bmo (a10 _) (by rw [j1];exact af8 l)
def a7d:∀ (m:List Nat) (l:List Fd),i < l.length -> (∀ a ∈ m,a < 32) -> m.Pairwise (· < ·) -> m.foldl (im i) l = (m.filter fun a=>(l.getD i default).lhs.getLsbD a).foldl (im i) l
 | [],_,_,_,_=>rfl
 | a :: m,l,hi,h32,hp=>by
  obtain ⟨p1,p2⟩:=bnk.1 hp;have ha:=h32 a bnj;rw [bo9,a7d m _ (by rw [aae];exact hi) (fun b hb=>h32 b (bni _ hb)) p2]
  have e:m.filter (fun b=>((im i l a).getD i default).lhs.getLsbD b) = m.filter fun b=>(l.getD i default).lhs.getLsbD b:=by
   apply List.filter_congr;intro b hb;exact aoo hi (h32 b (bni _ hb)) (Nat.ne_of_gt (p1 b hb))
  rw [e,bnf]
  cases hba:(l.getD i default).lhs.getLsbD a with
  | true=>rfl
  | false =>
   rw [avm (by rw [gk ha];exact hba)];rfl
def asv {n:Nat} (hi:i < l.length) (hn:n <= 32) (h:sub (l.getD i default).lhs (jn n)):(List.range n).foldl (im i) l = a4g l i:=by
 rw [a7d _ _ hi (fun a ha=>by have:=bmq.1 ha;omega) List.pairwise_lt_range];unfold a4g aj;congr 1;obtain ⟨d,hd⟩:∃ d,32 = n + d:=⟨32 - n,by omega⟩
 have key:∀ (s:AS),sub s (jn n) -> (List.range n).filter (fun a=>s.getLsbD a) = (List.range (n + d)).filter fun a=>s.getLsbD a:=fun s hs=>by
  rw [List.range_add,bnc]
  have:(List.map (fun x=>n + x) (List.range d)).filter (fun a=>s.getLsbD a) = []:=by
   rw [bpm];intro a ha hb;obtain ⟨x,hx,rfl⟩:=bn2.1 ha;have hx:=bmq.1 hx;have:=ar.1 hs (n + x) bqi hb;rw [ny _ _ bqi,decide_eq_true_eq] at this;omega
  rw [this,bn9]
 rw [key _ h,<- hd]
def v6 (t:AS) (l:List Fd):Prop:=∀ x ∈ l,sub x.lhs t
def bat {t:AS} (h:v6 t l):v6 t (im i l a):=by
 unfold im;split
 · rename_i hc
   intro x hx
   rcases List.mem_or_eq_of_mem_set hx with hx | rfl
   · exact h x hx
   by_cases hi:i < l.length
   · have:=h (l.getD i default) (by rw [bmb,bma hi];exact bmz hi)
     refine d8 (ar.2 fun k hk hb=>?_) this;have hb:((l.getD i default).lhs &&& ~~~((1:AS) <<< a)).getLsbD k = true:=hb;rw [bmr,bml] at hb;exact hb.1
   rw [bph bqi] at hx;exact h _ hx
 exact h
def aje {t:AS}:∀ (m:List Nat) (l:List Fd),v6 t l -> v6 t (m.foldl (im i) l)
 | [],_,h=>h
 | a :: m,l,h=>aje m _ (bat h)
def age {t:AS} (h:v6 t l):∀ i,v6 t (gp l i)
 | 0=>h
 | i + 1=>by rw [a0v];exact aje _ _ (age h i)
def aw1 {t:AS} (h:v6 t l):v6 t (spl l):=by
 intro x hx;have hx:=xv.1 hx;unfold fw at hx;obtain ⟨ys,hys,hxy⟩:=List.mem_flatten.1 hx;obtain ⟨f,hf,rfl⟩:=bn2.1 hys;unfold vf at hxy;obtain ⟨a,_,rfl⟩:=bn2.1 hxy;exact h f hf
def akq {n:Int} (h:b6 n l = 0):v6 (a7 n) l:=by
 obtain ⟨h0,h1,_,h3⟩:=ew h;intro x hx;exact ((om h0 h1).1 (bnh.1 h3 x hx)).1
end
end
end Go.Hx
